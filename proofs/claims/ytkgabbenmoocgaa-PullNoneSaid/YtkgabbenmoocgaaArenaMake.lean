/- The arena's free and Make. -/
import Derived.Test.YtkgabbenmoocgaaArenaSet
namespace Go.Proofs.Ytkgabbenmoocgaa
set_option linter.unusedSimpArgs false
set_option linter.unusedVariables false
set_option linter.unnecessarySimpa false
open Go.RowKit
attribute [local go_sem ↓] Go.wp_at_zero Go.wp_at_succ
attribute [local go_sem] lt_s2 lt_s3 lt_s4
variable {ap : Value} {s : Ar} {O : Nat → Prop}
theorem freeFrom_at (used : Nat → Bool) (size k : Nat) (h : k ≤ size) : freeFrom used size (size + 1 - k) k = if used k then freeFrom used size (size + 1 - (k + 1)) (k + 1) else (k : Int) := by
  rw [show size + 1 - k = (size - k) + 1 by omega, show size + 1 - (k + 1) = size - k by omega]; rfl
theorem freeFrom_end (used : Nat → Bool) (size : Nat) : freeFrom used size (size + 1 - (size + 1)) (size + 1) = 0 := by
  rw [Nat.sub_self]; rfl
set_option maxHeartbeats 400000 in
theorem free_calls (w : World) (hA : AP w ap s O) :
    Calls Try.prog 37 #[ap] w fun e w' => e = .returned (.int .i64 s.free) ∧ w = w' := by
  have hs := hA.1.small
  go_enter Try.func37, Try.ntmps37
  go_wp2_with fail
  go_loop [3] (fun h => ∃ k : Nat, 1 ≤ k ∧ k ≤ s.size + 1 ∧ h = .int .i64 k ∧ Hid (s.free = freeFrom s.used s.size (s.size + 1 - k) k)) (fun h => s.size + 1 - (intOf h).toNat)
  case atStart => exact ⟨1, by omega, by omega, rfl, Lib.hid rfl⟩
  case round =>
    obtain ⟨k, hk1, hk2, rfl, hk⟩ := hrel
    by_cases hlt : k ≤ s.size
    · have d1 : decide ((k : Int) ≤ (s.size : Int)) = true := by simp; omega
      obtain ⟨p, nb, cb, ub, wv, rfl, hR⟩ := hA.raw (by omega)
      have cp := hR.reads.cp
      have cu := hR.reads.cu k hlt
      have d3 : (k : Int) < (s.size : Int) + 1 := by omega
      clear hR
      rw [freeFrom_at _ _ _ hlt] at hk
      by_cases hu : s.used k = true
      · rw [hu] at cu hk
        rw [if_pos rfl] at hk
        clear hu
        go_wp2_with fail
        refine (size_calls _ hA).mono ?_
        rintro e w1 ⟨rfl, rfl⟩
        go_wp2_with fail
        go_round
        case rel => exact ⟨k + 1, by omega, by omega, by go_num, hk⟩
        case measure => simp [intOf]; omega
      · rw [Bool.eq_false_iff.2 hu] at cu hk
        rw [if_neg (by decide)] at hk
        clear hu
        go_wp2_with fail
        refine (size_calls _ hA).mono ?_
        rintro e w1 ⟨rfl, rfl⟩
        go_wp2_with fail
        go_ret
        exact ⟨by rw [hk.out]; rfl, rfl⟩
    · have d1 : decide ((k : Int) ≤ (s.size : Int)) = false := by simp; omega
      obtain rfl : k = s.size + 1 := by omega
      rw [freeFrom_end] at hk
      go_wp2_with fail
      refine (size_calls _ hA).mono ?_
      rintro e w1 ⟨rfl, rfl⟩
      go_wp2_with fail
      go_ret
      exact ⟨by rw [hk.out]; rfl, rfl⟩
/-- What Make tells where it makes nothing. -/
theorem bad_take (s : Ar) (l : List Int) (i : Nat) (hi : i < l.length) : s.bad (l.take (i + 1)) = (s.bad (l.take i) || (l[i] != 0 && s.cnt l[i] == 0)) := by
  unfold Ar.bad
  rw [List.take_succ_eq_append_getElem hi, List.any_append]; simp
set_option maxHeartbeats 800000 in
theorem make_tag (n : Nd) (ht : n.tag < 1 ∨ 6 < n.tag) (w : World) (hA : AP w ap s O) :
    Calls Try.prog 16 #[ap, n.val] w fun e w' => e = .returned (.tuple #[.int .i64 0, .int .i64 1]) ∧ Below w.heap.size w w' := by
  unfold Nd.val
  rcases ht with ht | ht
  · have d1 : decide (n.tag < 1) = true := by simpa using ht
    go_enter Try.func16, Try.ntmps16
    go_wp2_with fail
    go_ret2
    refine ⟨rfl, ?_⟩
    (repeat' first | with_reducible assumption | with_reducible exact Below.refl _ _ | with_reducible refine Below.alloc ?_ ?_ _ | with_reducible refine Below.setCell ?_ ?_ _ | with_reducible refine below_drewN ?_ _ | with_reducible refine Below.drew ?_ | exact Nat.le_refl _ | ((try dsimp only); omega) | (simp only [siz_alloc, siz_set]; omega))
  · have d1 : decide (n.tag < 1) = false := by simp; omega
    have d2 : decide (6 < n.tag) = true := by simpa using ht
    go_enter Try.func16, Try.ntmps16
    go_wp2_with fail
    go_ret2
    refine ⟨rfl, ?_⟩
    (repeat' first | with_reducible assumption | with_reducible exact Below.refl _ _ | with_reducible refine Below.alloc ?_ ?_ _ | with_reducible refine Below.setCell ?_ ?_ _ | with_reducible refine below_drewN ?_ _ | with_reducible refine Below.drew ?_ | exact Nat.le_refl _ | ((try dsimp only); omega) | (simp only [siz_alloc, siz_set]; omega))
theorem idx0 (a b c d : Int) (w : World) : (Instr.index 45 (.agg #[.int .i64 a, .int .i64 b, .int .i64 c, .int .i64 d]) (.int .i64 0)).run Try.prog w = .ok (.int .i64 a) w := by kernel_rfl
theorem idx1 (a b c d : Int) (w : World) : (Instr.index 45 (.agg #[.int .i64 a, .int .i64 b, .int .i64 c, .int .i64 d]) (.int .i64 1)).run Try.prog w = .ok (.int .i64 b) w := by kernel_rfl
theorem idx2 (a b c d : Int) (w : World) : (Instr.index 45 (.agg #[.int .i64 a, .int .i64 b, .int .i64 c, .int .i64 d]) (.int .i64 2)).run Try.prog w = .ok (.int .i64 c) w := by kernel_rfl
theorem idx3 (a b c d : Int) (w : World) : (Instr.index 45 (.agg #[.int .i64 a, .int .i64 b, .int .i64 c, .int .i64 d]) (.int .i64 3)).run Try.prog w = .ok (.int .i64 d) w := by kernel_rfl
attribute [local go_sem] idx0 idx1 idx2 idx3
theorem make_bad {s : Ar} {n : Nd} (h1 : 1 ≤ n.tag) (h2 : n.tag ≤ 6) (hb : s.bad n.kids = true) : s.make n = (0, 9, s) := by
  unfold Ar.make; rw [if_neg (by omega), if_pos hb]
theorem make_full {s : Ar} {n : Nd} (h1 : 1 ≤ n.tag) (h2 : n.tag ≤ 6) (hb : s.bad n.kids = false) (hf : s.free = 0) : s.make n = (0, 2, s) := by
  unfold Ar.make; rw [if_neg (by omega), if_neg (by simp [hb]), if_pos hf]
theorem make_done {s : Ar} {n : Nd} {f : Nat} (h1 : 1 ≤ n.tag) (h2 : n.tag ≤ 6) (hb : s.bad n.kids = false) (hf : s.free = f) (h : 1 ≤ f) :
    s.make n = ((f : Int), 0, { s with node := upd s.node f n, count := upd (incAll s.count n.kids) f 1, used := upd s.used f true, busy := wrap64 (s.busy + 1), made := wrap64 (s.made + 1) }) := by
  unfold Ar.make; rw [if_neg (by omega), if_neg (by simp [hb]), hf, if_neg (by omega)]; rfl
/-- An arena while a node is being made: the first i kids are counted. -/
structure MakeAt (w wr : World) (p : Nat) (s : Ar) (nb cb ub : Nat) (wv : Value) (O : Nat → Prop) (n : Nd) (i : Nat) : Prop where
  raw : RawS wr p { s with count := incAll s.count (n.kids.take i) } nb cb ub wv O
  blk : wr.heap[w.heap.size]? = some (.cells n.cells 47 (0, 0))
  fr : Fr noX O O w wr
  no : ¬ O w.heap.size
theorem incAll_append (c : Nat → Int) (l m : List Int) : incAll c (l ++ m) = incAll (incAll c l) m := by
  induction l generalizing c with
  | nil => rfl
  | cons k l ih => exact ih _
section
variable {w wr : World} {p : Nat} {nb cb ub : Nat} {wv : Value} {n : Nd} {i : Nat}
theorem MakeAt.cp (h : MakeAt w wr p s nb cb ub wv O n i) : ∀ o, wr.cell? ⟨p, o, none⟩ = #[.slice (some ⟨nb, 0, none⟩) (s.size + 1) (s.size + 1), .slice (some ⟨cb, 0, none⟩) (s.size + 1) (s.size + 1), .slice (some ⟨ub, 0, none⟩) (s.size + 1) (s.size + 1), wv, .int .i64 s.busy, .int .i64 s.made][o]? := h.raw.reads.cp
theorem MakeAt.cc (h : MakeAt w wr p s nb cb ub wv O n i) (m : Nat) (hm : m ≤ s.size) :
    ∃ c, wr.cell? ⟨cb, m, none⟩ = some (.int .i64 c) ∧ ∀ k, n.kids[i]? = some k → k ≠ 0 → k = m → MakeAt w (wr.setCell ⟨cb, m, none⟩ (.int .i64 (wrap64 (c + 1)))) p s nb cb ub wv O n (i + 1) := by
  refine ⟨_, h.raw.reads.cc m hm, fun k hk hk0 hkm => ⟨?_, ?_, ?_, ?_⟩⟩
  · refine (h.raw.setC m _).congr (fun _ _ => rfl) (fun j _ => ?_) (fun _ _ => rfl)
    obtain ⟨hl, hk⟩ := List.getElem?_eq_some_iff.1 hk
    unfold updF countF
    rw [List.take_succ_eq_append_getElem hl, incAll_append]
    simp only [incAll, hk]
    rw [if_neg hk0, hkm, Int.toNat_natCast]
    unfold upd
    split <;> rfl
  · have hne : w.heap.size ≠ cb := fun e => h.no (by rw [e]; exact h.raw.oc)
    rw [blk_far _ _ _ _ hne]; exact h.blk
  · exact ⟨h.fr.os, h.fr.tape, h.fr.output, by rw [siz_set]; exact h.fr.size, fun x hx ho hX => by
      have hne : x ≠ cb := fun e => ho (by rw [e]; exact h.raw.oc)
      rw [blk_far _ _ _ _ hne]; exact h.fr.block x hx ho hX, h.fr.own⟩
  · exact h.no
theorem MakeAt.skip (h : MakeAt w wr p s nb cb ub wv O n i) (k : Int) (hk : n.kids[i]? = some k) (hz : k = 0) : MakeAt w wr p s nb cb ub wv O n (i + 1) := by
  refine ⟨h.raw.congr (fun _ _ => rfl) (fun j _ => ?_) (fun _ _ => rfl), h.blk, h.fr, h.no⟩
  obtain ⟨hl, hk⟩ := List.getElem?_eq_some_iff.1 hk
  unfold countF
  rw [List.take_succ_eq_append_getElem hl, incAll_append]
  simp only [incAll, hk]
  rw [if_pos hz]
end
set_option maxRecDepth 100000 in
set_option maxHeartbeats 4000000 in
theorem make_calls0 (n : Nd) (h1 : 1 ≤ n.tag) (h2 : n.tag ≤ 6) (hn : U64 n.a) (w : World) (hA : AP w ap s O) :
    Calls Try.prog 16 #[ap, n.val] w fun e w' => e = .returned (.tuple #[.int .i64 (s.make n).1, .int .i64 (s.make n).2.1]) ∧ Did noX ap (s.make n).2.2 O w w' := by
  unfold Nd.val
  have d1 : decide (n.tag < 1) = false := by simp; omega
  have d2 : decide (6 < n.tag) = false := by simp; omega
  go_enter Try.func16, Try.ntmps16
  go_wp2_with fail
  go_loopw [21] (fun x wr => ∃ i : Nat, i ≤ 4 ∧ x = .int .i64 i ∧ s.bad (n.kids.take i) = false ∧ wr = w.alloc (.cells #[.int .i64 n.tag, .int .i64 n.k0, .int .i64 n.k1, .int .i64 n.k2, .int .i64 n.k3, .int .u64 n.a, .int .u64 n.b] 47 (0, 0))) (fun x _ => 4 - (intOf x).toNat)
  case atStart => exact ⟨0, by omega, rfl, rfl, rfl⟩
  case round =>
    obtain ⟨i, hi, rfl, hbi, rfl⟩ := hrel
    rcases (show i = 0 ∨ i = 1 ∨ i = 2 ∨ i = 3 ∨ i = 4 by omega) with rfl | rfl | rfl | rfl | rfl
    · by_cases hz : n.k0 = 0
      · have d5 : (n.k0 != 0) = false := by simp [hz]
        have hbi' : s.bad (n.kids.take 1) = false := by rw [bad_take s n.kids 0 (by simp [Nd.kids]), hbi]; simp [Nd.kids, hz]
        clear hz
        go_wp2_with fail
        go_roundw
        case rel => exact ⟨1, by omega, rfl, hbi', trivial⟩
        case measure => simp [intOf]
      · have d5 : (n.k0 != 0) = true := by simp [hz]
        by_cases hc : s.cnt n.k0 = 0
        · have d6 : (s.cnt n.k0 == 0) = true := by simp [hc]
          have hbad : s.bad n.kids = true := by
            unfold Ar.bad; rw [List.any_eq_true]; exact ⟨n.k0, by simp [Nd.kids], by simp [hz, hc]⟩
          clear hz hc
          go_wp2_with fail
          refine (count_calls _ _ (hA.alloc _)).mono ?_
          rintro e w1 ⟨rfl, rfl⟩
          go_wp2_with fail
          go_ret2
          exact ⟨by rw [make_bad h1 h2 hbad]; rfl, by rw [make_bad h1 h2 hbad]; exact ⟨O, hA.alloc _, (Fr.refl _ _ _).alloc _⟩⟩
        · have d6 : (s.cnt n.k0 == 0) = false := by simp [hc]
          have hbi' : s.bad (n.kids.take 1) = false := by rw [bad_take s n.kids 0 (by simp [Nd.kids]), hbi]; simp [Nd.kids, hc]
          clear hz hc
          go_wp2_with fail
          refine (count_calls _ _ (hA.alloc _)).mono ?_
          rintro e w1 ⟨rfl, rfl⟩
          go_wp2_with fail
          go_roundw
          case rel => exact ⟨1, by omega, rfl, hbi', trivial⟩
          case measure => simp [intOf]
    · by_cases hz : n.k1 = 0
      · have d5 : (n.k1 != 0) = false := by simp [hz]
        have hbi' : s.bad (n.kids.take 2) = false := by rw [bad_take s n.kids 1 (by simp [Nd.kids]), hbi]; simp [Nd.kids, hz]
        clear hz
        go_wp2_with fail
        go_roundw
        case rel => exact ⟨2, by omega, rfl, hbi', trivial⟩
        case measure => simp [intOf]
      · have d5 : (n.k1 != 0) = true := by simp [hz]
        by_cases hc : s.cnt n.k1 = 0
        · have d6 : (s.cnt n.k1 == 0) = true := by simp [hc]
          have hbad : s.bad n.kids = true := by
            unfold Ar.bad; rw [List.any_eq_true]; exact ⟨n.k1, by simp [Nd.kids], by simp [hz, hc]⟩
          clear hz hc
          go_wp2_with fail
          refine (count_calls _ _ (hA.alloc _)).mono ?_
          rintro e w1 ⟨rfl, rfl⟩
          go_wp2_with fail
          go_ret2
          exact ⟨by rw [make_bad h1 h2 hbad]; rfl, by rw [make_bad h1 h2 hbad]; exact ⟨O, hA.alloc _, (Fr.refl _ _ _).alloc _⟩⟩
        · have d6 : (s.cnt n.k1 == 0) = false := by simp [hc]
          have hbi' : s.bad (n.kids.take 2) = false := by rw [bad_take s n.kids 1 (by simp [Nd.kids]), hbi]; simp [Nd.kids, hc]
          clear hz hc
          go_wp2_with fail
          refine (count_calls _ _ (hA.alloc _)).mono ?_
          rintro e w1 ⟨rfl, rfl⟩
          go_wp2_with fail
          go_roundw
          case rel => exact ⟨2, by omega, rfl, hbi', trivial⟩
          case measure => simp [intOf]
    · by_cases hz : n.k2 = 0
      · have d5 : (n.k2 != 0) = false := by simp [hz]
        have hbi' : s.bad (n.kids.take 3) = false := by rw [bad_take s n.kids 2 (by simp [Nd.kids]), hbi]; simp [Nd.kids, hz]
        clear hz
        go_wp2_with fail
        go_roundw
        case rel => exact ⟨3, by omega, rfl, hbi', trivial⟩
        case measure => simp [intOf]
      · have d5 : (n.k2 != 0) = true := by simp [hz]
        by_cases hc : s.cnt n.k2 = 0
        · have d6 : (s.cnt n.k2 == 0) = true := by simp [hc]
          have hbad : s.bad n.kids = true := by
            unfold Ar.bad; rw [List.any_eq_true]; exact ⟨n.k2, by simp [Nd.kids], by simp [hz, hc]⟩
          clear hz hc
          go_wp2_with fail
          refine (count_calls _ _ (hA.alloc _)).mono ?_
          rintro e w1 ⟨rfl, rfl⟩
          go_wp2_with fail
          go_ret2
          exact ⟨by rw [make_bad h1 h2 hbad]; rfl, by rw [make_bad h1 h2 hbad]; exact ⟨O, hA.alloc _, (Fr.refl _ _ _).alloc _⟩⟩
        · have d6 : (s.cnt n.k2 == 0) = false := by simp [hc]
          have hbi' : s.bad (n.kids.take 3) = false := by rw [bad_take s n.kids 2 (by simp [Nd.kids]), hbi]; simp [Nd.kids, hc]
          clear hz hc
          go_wp2_with fail
          refine (count_calls _ _ (hA.alloc _)).mono ?_
          rintro e w1 ⟨rfl, rfl⟩
          go_wp2_with fail
          go_roundw
          case rel => exact ⟨3, by omega, rfl, hbi', trivial⟩
          case measure => simp [intOf]
    · by_cases hz : n.k3 = 0
      · have d5 : (n.k3 != 0) = false := by simp [hz]
        have hbi' : s.bad (n.kids.take 4) = false := by rw [bad_take s n.kids 3 (by simp [Nd.kids]), hbi]; simp [Nd.kids, hz]
        clear hz
        go_wp2_with fail
        go_roundw
        case rel => exact ⟨4, by omega, rfl, hbi', trivial⟩
        case measure => simp [intOf]
      · have d5 : (n.k3 != 0) = true := by simp [hz]
        by_cases hc : s.cnt n.k3 = 0
        · have d6 : (s.cnt n.k3 == 0) = true := by simp [hc]
          have hbad : s.bad n.kids = true := by
            unfold Ar.bad; rw [List.any_eq_true]; exact ⟨n.k3, by simp [Nd.kids], by simp [hz, hc]⟩
          clear hz hc
          go_wp2_with fail
          refine (count_calls _ _ (hA.alloc _)).mono ?_
          rintro e w1 ⟨rfl, rfl⟩
          go_wp2_with fail
          go_ret2
          exact ⟨by rw [make_bad h1 h2 hbad]; rfl, by rw [make_bad h1 h2 hbad]; exact ⟨O, hA.alloc _, (Fr.refl _ _ _).alloc _⟩⟩
        · have d6 : (s.cnt n.k3 == 0) = false := by simp [hc]
          have hbi' : s.bad (n.kids.take 4) = false := by rw [bad_take s n.kids 3 (by simp [Nd.kids]), hbi]; simp [Nd.kids, hc]
          clear hz hc
          go_wp2_with fail
          refine (count_calls _ _ (hA.alloc _)).mono ?_
          rintro e w1 ⟨rfl, rfl⟩
          go_wp2_with fail
          go_roundw
          case rel => exact ⟨4, by omega, rfl, hbi', trivial⟩
          case measure => simp [intOf]
    · have hbad : s.bad n.kids = false := hbi
      clear hbi
      by_cases hf : s.free = 0
      · have d7 : (s.free == 0) = true := by simp [hf]
        have hm := Lib.hid (make_full h1 h2 hbad hf)
        clear hf hbad
        go_wp2_with fail
        refine (free_calls _ (hA.alloc _)).mono ?_
        rintro e w1 ⟨rfl, rfl⟩
        go_wp2_with fail
        go_ret2
        exact ⟨by rw [hm.out]; rfl, by rw [hm.out]; exact ⟨O, hA.alloc _, (Fr.refl _ _ _).alloc _⟩⟩
      · have d7 : (s.free == 0) = false := by simp [hf]
        go_wp2_with fail
        refine (free_calls _ (hA.alloc _)).mono ?_
        rintro e w1 ⟨rfl, rfl⟩
        obtain ⟨f, hf1, hf2, hf3, hf4⟩ := Ar.free_spec hf
        rw [hf1] at d7 ⊢
        have hk : ∀ k ∈ n.kids, k ≠ 0 → s.cnt k ≠ 0 := fun k hk hk0 hc => by
          have : s.bad n.kids = true := by unfold Ar.bad; rw [List.any_eq_true]; exact ⟨k, hk, by simp [hk0, hc]⟩
          rw [this] at hbad; cases hbad
        have HM := Lib.hid (make_done h1 h2 hbad hf1 hf2)
        clear hf hf1 hbad hf4
        have HK := Lib.hid hk; clear hk
        obtain ⟨p, nb, cb, ub, wv, rfl, hR⟩ := hA.raw (by omega)
        have hs := hA.1.small
        have hl1 := lt_of hR.hp; have hl2 := lt_of hR.hn; have hl3 := lt_of hR.hc; have hl4 := lt_of hR.hu
        have hnO := hA.new (Nat.le_refl _)
        have hW := hA.1.make n hn
        rw [HM.out] at hW
        have HW := Lib.hid hW; clear hW
        obtain ⟨tag, k0, k1, k2, k3, a, b⟩ := n
        dsimp only at *
        go_wp2_with fail
        go_loopw [39] (fun x wr => ∃ i : Nat, i ≤ 4 ∧ x = .int .i64 i ∧ MakeAt w wr p s nb cb ub wv O ⟨tag, k0, k1, k2, k3, a, b⟩ i) (fun x _ => 4 - (intOf x).toNat)
        case atStart => exact ⟨0, by omega, rfl, hR.alloc _, blk_new _ _ _ rfl, (Fr.refl _ _ _).alloc _, hnO⟩
        case round =>
          obtain ⟨i, hi, rfl, hM⟩ := hrel
          rcases (show i = 0 ∨ i = 1 ∨ i = 2 ∨ i = 3 ∨ i = 4 by omega) with rfl | rfl | rfl | rfl | rfl
          · by_cases hz : k0 = 0
            · have d5 : (k0 != 0) = false := by simp [hz]
              have hM' := Lib.hid (hM.skip k0 rfl hz)
              clear hz hM
              go_wp2_with fail
              go_roundw
              case rel => exact ⟨1, by omega, rfl, hM'.out⟩
              case measure => simp [intOf]
            · have d5 : (k0 != 0) = true := by simp [hz]
              obtain ⟨m, rfl, m1, m2, -⟩ := Ar.cnt_pos (HK.out k0 (by simp [Nd.kids]) hz)
              have cp := hM.cp; have fc := free_of hM.raw.hc
              obtain ⟨c, cc, hc⟩ := hM.cc m m2
              have hM' := Lib.hid (hc m rfl hz rfl)
              have d3 : (m : Int) < (s.size : Int) + 1 := by omega
              have d4 : (0 : Int) ≤ (m : Int) := by omega
              clear hz hM hc
              go_wp2_with fail
              go_roundw
              case rel => exact ⟨1, by omega, rfl, hM'.out⟩
              case measure => simp [intOf]
          · by_cases hz : k1 = 0
            · have d5 : (k1 != 0) = false := by simp [hz]
              have hM' := Lib.hid (hM.skip k1 rfl hz)
              clear hz hM
              go_wp2_with fail
              go_roundw
              case rel => exact ⟨2, by omega, rfl, hM'.out⟩
              case measure => simp [intOf]
            · have d5 : (k1 != 0) = true := by simp [hz]
              obtain ⟨m, rfl, m1, m2, -⟩ := Ar.cnt_pos (HK.out k1 (by simp [Nd.kids]) hz)
              have cp := hM.cp; have fc := free_of hM.raw.hc
              obtain ⟨c, cc, hc⟩ := hM.cc m m2
              have hM' := Lib.hid (hc m rfl hz rfl)
              have d3 : (m : Int) < (s.size : Int) + 1 := by omega
              have d4 : (0 : Int) ≤ (m : Int) := by omega
              clear hz hM hc
              go_wp2_with fail
              go_roundw
              case rel => exact ⟨2, by omega, rfl, hM'.out⟩
              case measure => simp [intOf]
          · by_cases hz : k2 = 0
            · have d5 : (k2 != 0) = false := by simp [hz]
              have hM' := Lib.hid (hM.skip k2 rfl hz)
              clear hz hM
              go_wp2_with fail
              go_roundw
              case rel => exact ⟨3, by omega, rfl, hM'.out⟩
              case measure => simp [intOf]
            · have d5 : (k2 != 0) = true := by simp [hz]
              obtain ⟨m, rfl, m1, m2, -⟩ := Ar.cnt_pos (HK.out k2 (by simp [Nd.kids]) hz)
              have cp := hM.cp; have fc := free_of hM.raw.hc
              obtain ⟨c, cc, hc⟩ := hM.cc m m2
              have hM' := Lib.hid (hc m rfl hz rfl)
              have d3 : (m : Int) < (s.size : Int) + 1 := by omega
              have d4 : (0 : Int) ≤ (m : Int) := by omega
              clear hz hM hc
              go_wp2_with fail
              go_roundw
              case rel => exact ⟨3, by omega, rfl, hM'.out⟩
              case measure => simp [intOf]
          · by_cases hz : k3 = 0
            · have d5 : (k3 != 0) = false := by simp [hz]
              have hM' := Lib.hid (hM.skip k3 rfl hz)
              clear hz hM
              go_wp2_with fail
              go_roundw
              case rel => exact ⟨4, by omega, rfl, hM'.out⟩
              case measure => simp [intOf]
            · have d5 : (k3 != 0) = true := by simp [hz]
              obtain ⟨m, rfl, m1, m2, -⟩ := Ar.cnt_pos (HK.out k3 (by simp [Nd.kids]) hz)
              have cp := hM.cp; have fc := free_of hM.raw.hc
              obtain ⟨c, cc, hc⟩ := hM.cc m m2
              have hM' := Lib.hid (hc m rfl hz rfl)
              have d3 : (m : Int) < (s.size : Int) + 1 := by omega
              have d4 : (0 : Int) ≤ (m : Int) := by omega
              clear hz hM hc
              go_wp2_with fail
              go_roundw
              case rel => exact ⟨4, by omega, rfl, hM'.out⟩
              case measure => simp [intOf]
          · have cp := hM.cp; have cn := cells_of hM.blk
            unfold Nd.cells at cn; dsimp only at cn
            obtain ⟨-, cc, cu, n0, n1, n2, n3, n4, n5, n6⟩ := hM.raw.reads
            have cc := cc f hf3; have cu := cu f hf3; have n0 := n0 f hf3; have n1 := n1 f hf3; have n2 := n2 f hf3; have n3 := n3 f hf3; have n4 := n4 f hf3; have n5 := n5 f hf3; have n6 := n6 f hf3
            dsimp only at cc cu n0 n1 n2 n3 n4 n5 n6
            have hne1 := hM.raw.pn; have hne2 := hM.raw.pc; have hne3 := hM.raw.pu; have hne4 := hM.raw.nc; have hne5 := hM.raw.nu; have hne6 := hM.raw.cu
            have hx1 : w.heap.size ≠ nb := fun e => hM.no (by rw [e]; exact hM.raw.on)
            have hx2 : w.heap.size ≠ cb := fun e => hM.no (by rw [e]; exact hM.raw.oc)
            have hx3 : w.heap.size ≠ ub := fun e => hM.no (by rw [e]; exact hM.raw.ou)
            have fn := free_of hM.raw.hn; have fc := free_of hM.raw.hc; have fu := free_of hM.raw.hu
            have d3 : (f : Int) < (s.size : Int) + 1 := by omega
            have d4 : (0 : Int) ≤ (f : Int) := by omega
            go_wp2_with fail
            go_region
            have HM2 := Lib.hid hM; clear hM
            clear cc cu n0 n1 n2 n3 n4 n5 n6 cn fn fc fu
            have fp := free_of HM2.out.raw.hp
            go_wp2_with fail
            go_ret2
            have hR2 := HM2.out.raw
            have hfin := ((((((((((hR2.setN (f * 7) (.int .i64 tag)).setN (f * 7 + 1) (.int .i64 k0)).setN (f * 7 + 2) (.int .i64 k1)).setN (f * 7 + 3) (.int .i64 k2)).setN (f * 7 + 4) (.int .i64 k3)).setN (f * 7 + 5) (.int .u64 a)).setN (f * 7 + 6) (.int .u64 b)).setC f (.int .i64 1)).setU f (.bool true)).setB (wrap64 (s.busy + 1))).setM (wrap64 (s.made + 1))
            have hf0 := HM2.out.fr
            have o1 := hR2.op; have o2 := hR2.on; have o3 := hR2.oc; have o4 := hR2.ou
            refine ⟨by rw [HM.out]; rfl, O, ?_, ?_⟩
            rotate_left
            · clear hfin
              exact (((((((((((hf0.ownSet (q := _) (by exact o2) _).ownSet (q := _) (by exact o2) _).ownSet (q := _) (by exact o2) _).ownSet (q := _) (by exact o2) _).ownSet (q := _) (by exact o2) _).ownSet (q := _) (by exact o2) _).ownSet (q := _) (by exact o2) _).ownSet (q := _) (by exact o3) _).ownSet (q := _) (by exact o4) _).ownSet (q := _) (by exact o1) _).ownSet (q := _) (by exact o1) _).drew
            have hW := HW.out
            rw [HM.out]
            refine (AP.of_raw (nb := nb) (cb := cb) (ub := ub) (wv := wv) (s := { s with node := upd s.node f ⟨tag, k0, k1, k2, k3, a, b⟩, count := upd (incAll s.count (Nd.kids ⟨tag, k0, k1, k2, k3, a, b⟩)) f 1, used := upd s.used f true, busy := wrap64 (s.busy + 1), made := wrap64 (s.made + 1) }) ?_ hW).drew
            refine hfin.congr (fun i _ => (nodeF_upd _ f ⟨tag, k0, k1, k2, k3, a, b⟩ i).trans ?_) (fun i _ => ?_) (fun i _ => ?_)
            · rfl
            · unfold updF countF upd; dsimp only; split <;> rfl
            · unfold updF usedF upd; dsimp only; split <;> rfl
theorem make_calls (n : Nd) (hn : U64 n.a) (w : World) (hA : AP w ap s O) :
    Calls Try.prog 16 #[ap, n.val] w fun e w' => e = .returned (.tuple #[.int .i64 (s.make n).1, .int .i64 (s.make n).2.1]) ∧ Did noX ap (s.make n).2.2 O w w' := by
  by_cases ht : n.tag < 1 ∨ 6 < n.tag
  · refine (make_tag n ht w hA).mono ?_
    rintro e w1 ⟨rfl, hb⟩
    unfold Ar.make; rw [if_pos ht]; exact ⟨rfl, O, hA.below hb, Fr.of_below hb⟩
  · exact make_calls0 n (by omega) (by omega) hn w hA
end Go.Proofs.Ytkgabbenmoocgaa
