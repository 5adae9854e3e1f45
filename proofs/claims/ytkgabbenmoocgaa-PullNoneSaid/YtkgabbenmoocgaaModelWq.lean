/- What waits in an arena waits once, is used, and is counted by nobody: each of the arena's ways leaves it so. -/
import Derived.Test.YtkgabbenmoocgaaModel
namespace Go.Proofs.Ytkgabbenmoocgaa
set_option linter.unusedSimpArgs false
set_option linter.unusedVariables false
set_option linter.unnecessarySimpa false
open Go.RowKit
def Ar.none : Ar := Ar.new 0
/-- A number of 64 bits. -/
def U64 (x : Int) : Prop := 0 ≤ x ∧ x < 18446744073709551616
theorem U64.zero : U64 0 := ⟨by omega, by omega⟩
theorem U64.u64 (x : Int) : U64 (u64 x) := by
  unfold U64 Go.Proofs.Ytkgabbenmoocgaa.u64
  rw [show IntKind.u64.wrap x = x % 18446744073709551616 by simp [IntKind.wrap, IntKind.bits, IntKind.signed]]
  omega
structure Ar.Wq (s : Ar) : Prop where
  nodup : s.wait.Nodup
  mem : ∀ h ∈ s.wait, 1 ≤ h ∧ h ≤ s.size ∧ s.used h = true ∧ s.count h = 0
  free : ∀ h, s.used h = false → s.count h = 0
  small : s.size ≤ 6000
  a64 : ∀ h, U64 (s.node h).a
theorem nodup_le : ∀ (n : Nat) (l : List Nat), l.Nodup → (∀ h ∈ l, h < n) → l.length ≤ n
  | 0, l, _, h => by
    cases l with
    | nil => simp
    | cons a l => exact absurd (h a (by simp)) (by omega)
  | n + 1, l, hn, h => by
    by_cases hm : n ∈ l
    · have := nodup_le n (l.erase n) (hn.erase n) (fun x hx => by
        have h1 := (hn.mem_erase_iff).1 hx
        have := h x h1.2
        have := h1.1
        omega)
      rw [List.length_erase_of_mem hm] at this
      omega
    · have := nodup_le n l hn (fun x hx => by
        have := h x hx
        have : x ≠ n := fun e => hm (e ▸ hx)
        omega)
      omega
theorem Ar.Wq.length {s : Ar} (h : s.Wq) : s.wait.length ≤ 6001 := by
  have := nodup_le (s.size + 1) s.wait h.nodup (fun x hx => by have := h.mem x hx; omega)
  have := h.small
  omega
theorem upd_self {α : Type} (f : Nat → α) (i : Nat) (v : α) : upd f i v i = v := by simp [upd]
theorem upd_ne {α : Type} (f : Nat → α) (i j : Nat) (v : α) (h : j ≠ i) : upd f i v j = f j := by simp [upd, h]
theorem Ar.cnt_pos {s : Ar} {h : Int} (hc : s.cnt h ≠ 0) : ∃ n : Nat, h = n ∧ 1 ≤ n ∧ n ≤ s.size ∧ s.count n = s.cnt h := by
  unfold Ar.cnt at hc ⊢
  by_cases hh : 1 ≤ h ∧ h ≤ s.size
  · rw [if_pos hh] at hc ⊢; exact ⟨h.toNat, by omega, by omega, by omega, rfl⟩
  · rw [if_neg hh] at hc; exact absurd rfl hc
theorem Ar.cnt_nat {s : Ar} {n : Nat} (h1 : 1 ≤ n) (h2 : n ≤ s.size) : s.cnt (n : Int) = s.count n := by
  unfold Ar.cnt; rw [if_pos (by omega)]; simp
theorem Ar.Wq.new (n : Nat) (h : n ≤ 6000) : (Ar.new n).Wq := ⟨List.nodup_nil, by simp [Ar.new], fun _ _ => rfl, h, fun _ => U64.zero⟩
theorem Ar.Wq.keep {s : Ar} (h : s.Wq) (x : Int) : (s.keep x).Wq := by
  unfold Ar.keep
  by_cases hc : s.cnt x = 0
  · rw [if_pos hc]; exact h
  · rw [if_neg hc]
    obtain ⟨n, rfl, h1, h2, h3⟩ := Ar.cnt_pos hc
    refine ⟨h.nodup, fun y hy => ?_, fun y hy => ?_, h.small, h.a64⟩
    · have hm := h.mem y hy
      refine ⟨hm.1, hm.2.1, hm.2.2.1, ?_⟩
      have : y ≠ n := fun e => by subst e; rw [hm.2.2.2] at h3; exact hc h3.symm
      simp only [Int.toNat_natCast]
      rw [upd_ne _ _ _ _ this]; exact hm.2.2.2
    · have hf := h.free y hy
      have : y ≠ n := fun e => by subst e; rw [hf] at h3; exact hc h3.symm
      simp only [Int.toNat_natCast]
      rw [upd_ne _ _ _ _ this]; exact hf
theorem Ar.Wq.drop {s : Ar} (h : s.Wq) (x : Int) : (s.drop x).Wq := by
  unfold Ar.drop
  by_cases hc : s.cnt x = 0
  · rw [if_pos hc]; exact h
  · rw [if_neg hc]
    obtain ⟨n, rfl, h1, h2, h3⟩ := Ar.cnt_pos hc
    have hnw : n ∉ s.wait := fun hm => by rw [(h.mem n hm).2.2.2] at h3; exact hc h3.symm
    have hu : s.used n = true := by
      cases hu : s.used n with
      | true => rfl
      | false => rw [h.free n hu] at h3; exact absurd h3.symm hc
    simp only [Int.toNat_natCast]
    refine ⟨?_, fun y hy => ?_, fun y hy => ?_, h.small, h.a64⟩
    · dsimp only
      split
      · exact List.nodup_append.2 ⟨h.nodup, by simp, fun a ha b hb => by simp at hb; subst hb; exact fun e => hnw (e ▸ ha)⟩
      · exact h.nodup
    · dsimp only at hy ⊢
      by_cases hz : wrap64 (s.cnt (n : Int) - 1) = 0
      · rw [if_pos hz] at hy
        rcases List.mem_append.1 hy with hm | hm
        · have hm' := h.mem y hm
          have hyn : y ≠ n := fun e => hnw (e ▸ hm)
          exact ⟨hm'.1, hm'.2.1, hm'.2.2.1, by rw [upd_ne _ _ _ _ hyn]; exact hm'.2.2.2⟩
        · simp at hm; subst hm
          exact ⟨h1, h2, hu, by rw [upd_self]; exact hz⟩
      · rw [if_neg hz] at hy
        have hm' := h.mem y hy
        have hyn : y ≠ n := fun e => hnw (e ▸ hy)
        exact ⟨hm'.1, hm'.2.1, hm'.2.2.1, by rw [upd_ne _ _ _ _ hyn]; exact hm'.2.2.2⟩
    · dsimp only at hy ⊢
      have : y ≠ n := fun e => by subst e; rw [hu] at hy; cases hy
      rw [upd_ne _ _ _ _ this]; exact h.free y hy
theorem Ar.keep_size (s : Ar) (x : Int) : (s.keep x).size = s.size := by unfold Ar.keep; split <;> rfl
theorem Ar.drop_size (s : Ar) (x : Int) : (s.drop x).size = s.size := by unfold Ar.drop; split <;> rfl
theorem Ar.Wq.dropAll {s : Ar} (h : s.Wq) (l : List Int) : (s.dropAll l).Wq := by
  induction l generalizing s with
  | nil => exact h
  | cons x l ih => exact ih (h.drop x)
theorem incAll_ne (c : Nat → Int) (l : List Int) (n : Nat) (h : ∀ k ∈ l, k ≠ 0 → k.toNat ≠ n) : incAll c l n = c n := by
  induction l generalizing c with
  | nil => rfl
  | cons k l ih =>
    simp only [incAll]
    rw [ih _ (fun x hx => h x (by simp [hx]))]
    split
    · rfl
    · rename_i hk
      rw [upd_ne _ _ _ _ (Ne.symm (h k (by simp) hk))]
theorem freeFrom_spec (used : Nat → Bool) (size : Nat) : ∀ d h, freeFrom used size d h = 0 ∨ ∃ n : Nat, freeFrom used size d h = n ∧ h ≤ n ∧ n < h + d ∧ used n = false
  | 0, _ => .inl rfl
  | d + 1, h => by
    unfold freeFrom
    by_cases hu : used h = true
    · rw [if_pos hu]
      rcases freeFrom_spec used size d (h + 1) with h0 | ⟨n, h1, h2, h3, h4⟩
      · exact .inl h0
      · exact .inr ⟨n, h1, by omega, by omega, h4⟩
    · rw [if_neg hu]; exact .inr ⟨h, rfl, Nat.le_refl _, by omega, by simpa using hu⟩
theorem Ar.free_spec {s : Ar} (h : s.free ≠ 0) : ∃ n : Nat, s.free = n ∧ 1 ≤ n ∧ n ≤ s.size ∧ s.used n = false := by
  rcases freeFrom_spec s.used s.size s.size 1 with h0 | ⟨n, h1, h2, h3, h4⟩
  · exact absurd h0 h
  · exact ⟨n, h1, h2, by omega, h4⟩
theorem Ar.Wq.make {s : Ar} (h : s.Wq) (n : Nd) (hn : U64 n.a) : (s.make n).2.2.Wq := by
  unfold Ar.make
  split
  · exact h
  · split
    · exact h
    · rename_i hb
      split
      · exact h
      · rename_i hf
        obtain ⟨f, hf1, hf2, hf3, hf4⟩ := Ar.free_spec hf
        have hlive : ∀ k ∈ n.kids, k ≠ 0 → s.cnt k ≠ 0 := fun k hk hk0 hc => by
          apply hb
          unfold Ar.bad
          rw [List.any_eq_true]
          exact ⟨k, hk, by simp [hk0, hc]⟩
        have hinc : ∀ y, s.count y = 0 → incAll s.count n.kids y = s.count y := fun y hy => incAll_ne _ _ _ fun k hk hk0 e => by
          obtain ⟨m, rfl, _, _, h3⟩ := Ar.cnt_pos (hlive k hk hk0)
          simp at e; subst e
          exact hlive _ hk hk0 (h3.symm.trans hy)
        refine ⟨h.nodup, fun y hy => ?_, fun y hy => ?_, h.small, fun y => ?_⟩
        · have hm := h.mem y hy
          have hyf : y ≠ s.free.toNat := fun e => by rw [hf1] at e; simp at e; subst e; rw [hm.2.2.1] at hf4; cases hf4
          refine ⟨hm.1, hm.2.1, ?_, ?_⟩
          · show upd s.used s.free.toNat true y = true
            rw [upd_ne _ _ _ _ hyf]; exact hm.2.2.1
          · show upd (incAll s.count n.kids) s.free.toNat 1 y = 0
            rw [upd_ne _ _ _ _ hyf, hinc y hm.2.2.2]; exact hm.2.2.2
        · replace hy : upd s.used s.free.toNat true y = false := hy
          have hyf : y ≠ s.free.toNat := fun e => by
            subst e
            rw [upd_self] at hy; cases hy
          rw [show (upd s.used s.free.toNat true y) = s.used y from upd_ne _ _ _ _ hyf] at hy
          show upd (incAll s.count n.kids) s.free.toNat 1 y = 0
          rw [upd_ne _ _ _ _ hyf, hinc y (h.free y hy)]; exact h.free y hy
        · show U64 (upd s.node s.free.toNat n y).a
          unfold upd; split
          · exact hn
          · exact h.a64 y
/-- The first that waits is freed. -/
def Ar.pop (s : Ar) (h : Nat) (l : List Nat) : Ar := { s with wait := l, node := upd s.node h Nd.zero, used := upd s.used h false, busy := wrap64 (s.busy - 1) }
theorem Ar.Wq.pop {s : Ar} (h : s.Wq) {x : Nat} {l : List Nat} (hw : s.wait = x :: l) : (s.pop x l).Wq := by
  have hn := h.nodup
  rw [hw, List.nodup_cons] at hn
  have hx := h.mem x (by rw [hw]; simp)
  refine ⟨hn.2, fun y hy => ?_, fun y hy => ?_, h.small, fun y => ?_⟩
  · have hm := h.mem y (by rw [hw]; simp [show y ∈ l from hy])
    refine ⟨hm.1, hm.2.1, ?_, hm.2.2.2⟩
    show upd s.used x false y = true
    have hyx : y ≠ x := fun e => hn.1 (e ▸ hy)
    rw [upd_ne _ _ _ _ hyx]; exact hm.2.2.1
  · by_cases e : y = x
    · subst e; exact hx.2.2.2
    · have hy' : upd s.used x false y = false := hy
      rw [upd_ne _ _ _ _ e] at hy'
      exact h.free y hy'
  · show U64 (upd s.node x Nd.zero y).a
    unfold upd; split
    · exact U64.zero
    · exact h.a64 y
theorem Ar.Wq.get64 {s : Ar} (h : s.Wq) (x : Int) : U64 (s.get x).a := by
  unfold Ar.get; split
  · exact h.a64 _
  · exact U64.zero
theorem Ar.Wq.workL {k : Nat} : ∀ {s : Ar} {most n : Int} {r : Int × Ar}, s.Wq → Ar.workL k s most n = some r → r.2.Wq := by
  induction k with
  | zero => intro s most n r _ h; cases h
  | succ k ih =>
    intro s most n r hs h
    unfold Ar.workL at h
    split at h
    · cases h; exact hs
    · split at h
      · cases h; exact hs
      · rename_i x l hw
        exact ih ((hs.pop hw).dropAll _) h
end Go.Proofs.Ytkgabbenmoocgaa
