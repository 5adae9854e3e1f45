/- A region that draws its order: an operation that leaves the world as it is, or a call that does, may be taken first. -/
import Derived.Test.YtkgabbenmoocgaaWords
import Derived.OrdersHeld
namespace Go.Proofs.Ytkgabbenmoocgaa
set_option linter.unusedSimpArgs false
set_option linter.unusedVariables false
set_option linter.unnecessarySimpa false
open Go.RowKit
section
variable {P : Program} {ops : Array Oper} {Q : Exit → Act → World → Prop} {md : Region.Mode} {S : World → Prop}
/-- That the value of one operation lies there already makes no difference to another one that is apart from it. -/
theorem op_carry {j : Nat} {oi oj : Oper} {v : Value} (hj : ops[j]? = some oj) (hap : oi.apart ops oj = true) (hsj : ∀ cs b, oj.op ≠ .select cs b)
    (hQ : ∀ c a w, Q (.panic c) (a.put oi.dst v) w → Q (.panic c) a w) {Z : Act → Prop} (hZ : ∀ a u, Z a → Z (a.put oj.dst u)) (hZd : ∀ a d, Z a → Z { a with defers := d :: a.defers })
    {K : Act → World → Prop} {a : Act} {w : World} (hz : Z a) (h : wpOp P ops Q j K (a.put oi.dst v) w) : wpOp P ops Q j (fun a' w' => Z a' ∧ K (a'.put oi.dst v) w') a w := by
  obtain ⟨h1, h2, _⟩ := Oper.apart_spec hap
  have step : ∀ u w', K ((a.put oi.dst v).put oj.dst u) w' → Z (a.put oj.dst u) ∧ K ((a.put oj.dst u).put oi.dst v) w' := fun u w' hk =>
    ⟨hZ a u hz, by rw [← Act.put_comm a v u h2]; exact hk⟩
  unfold wpOp at h ⊢
  rw [hj] at h ⊢
  dsimp only at h ⊢
  rw [wanted_put oj a oi.dst v h1] at h
  by_cases hw : Region.wanted oj (yielded ops a.tmps) = true
  · rw [if_pos hw] at h ⊢
    unfold Oper.wp Oper.asks at *
    rw [execOp_put oj hsj a oi.dst v h1] at h
    rcases h with h | h
    · left
      revert h
      cases (execOp a.eval oj).run P w with
      | ok n w' =>
        cases n with
        | value u => exact step u w'
        | skip => exact step undef w'
        | defer d =>
          intro h
          refine ⟨hZ _ _ (hZd a d hz), ?_⟩
          rw [← Act.put_comm _ v undef h2, ← Act.put_defers]
          exact h
        | enter f args =>
          intro h
          refine Calls.mono h fun e w'' he => ?_
          cases e with
          | returned u => exact step u w'' he
          | panicked c => exact hQ _ _ _ he
          | outgrown => exact he
        | row r args => exact fun h => Rows.mono h fun u w'' he => step u w'' he
        | _ => exact fun h => (show False from h).elim
      | halt x w' =>
        cases x with
        | panic u => exact hQ _ _ _
        | _ => exact fun h => (show False from h).elim
    · exact .inr h
  · rw [if_neg hw] at h ⊢
    exact step undef w h
/-- An operation that in this state leaves v, and the world as it is. -/
structure Idle (P : Program) (ops : Array Oper) (Q : Exit → Act → World → Prop) (S : World → Prop) (i : Nat) (oi : Oper) (v : Value) (a : Act) : Prop where
  run : ∀ a', execOp a'.eval oi = execOp a.eval oi → Region.wanted oi (yielded ops a'.tmps) = Region.wanted oi (yielded ops a.tmps) → ∀ K w, S w → K (a'.put oi.dst v) w → wpOp P ops Q i K a' w
theorem held_first {i : Nat} {oi : Oper} {v : Value} (hi : ops[i]? = some oi) (hsel : ∀ (j : Nat) (o : Oper) cs b, ops[j]? = some o → o.op ≠ .select cs b) (hQ : ∀ c a w, Q (.panic c) (a.put oi.dst v) w → Q (.panic c) a w)
    {a0 : Act} (hy : Idle P ops Q S i oi v a0) : ∀ (fuel : Nat) (listed : Array Bool) (a : Act) (w : World), (execOp a.eval oi = execOp a0.eval oi ∧ Region.wanted oi (yielded ops a.tmps) = Region.wanted oi (yielded ops a0.tmps)) →
      (∀ j oj, ops[j]? = some oj → j ≠ i → listed.getD j true = false → (∀ e ∈ oj.after, Region.binds md e = true → e.on ≠ i) → oi.apart ops oj = true) →
      i ∈ Region.ready md ops listed → S w → wpAnyH P md ops Q S fuel (listed.setIfInBounds i true) (a.put oi.dst v) w → wpAnyH P md ops Q S (fuel + 1) listed a w
  | fuel, listed, a, w, hz, hfree, hr, hS, H => by
    refine ⟨fun h => (by rw [h] at hr; cases hr), fun j hj => ?_⟩
    by_cases hji : j = i
    · subst hji; exact hy.run a hz.1 hz.2 _ w hS ⟨hS, H⟩
    · have hjr : j ∈ Region.ready md ops (listed.setIfInBounds i true) := ready_mono hj hji
      cases fuel with
      | zero => rw [H.1] at hjr; cases hjr
      | succ fuel =>
        obtain ⟨hjun, oj, hoj, hall⟩ := mem_ready.1 hj
        have hi0 := (mem_ready.1 hr).1
        have hno : ∀ e ∈ oj.after, Region.binds md e = true → e.on ≠ i := fun e he hb heq => by
          have h1 := hall e he hb
          rw [heq] at h1
          by_cases hlt : i < listed.size
          · simp [hlt] at hi0 h1; rw [hi0] at h1; cases h1
          · simp [Array.getElem?_eq_none (Nat.le_of_not_lt hlt)] at h1
        have hap := hfree j oj hoj hji hjun hno
        have h3 := (Oper.apart_spec hap).2.2
        have hsi := fun cs b => hsel i oi cs b hi
        refine wpOp_mono ?_ (op_carry (Z := fun a => execOp a.eval oi = execOp a0.eval oi ∧ Region.wanted oi (yielded ops a.tmps) = Region.wanted oi (yielded ops a0.tmps)) hoj hap (fun cs b => hsel j oj cs b hoj) hQ
          (fun a u hz => ⟨(execOp_put oi hsi a oj.dst u h3).trans hz.1, (wanted_put oi a oj.dst u h3).trans hz.2⟩) (fun _ _ hz => hz) hz (H.2 j hjr))
        rintro a' w' ⟨hz', hS', hk⟩
        refine ⟨hS', held_first hi hsel hQ hy fuel (listed.setIfInBounds j true) a' w' hz' (fun k ok hk hki hun hno => ?_) (ready_mono hr (Ne.symm hji)) hS' ?_⟩
        · refine hfree k ok hk hki ?_ hno
          by_cases hjk : j = k
          · subst hjk; exact hjun
          · rwa [getD_set_ne true hjk] at hun
        · rw [Array.setIfInBounds_comm _ _ hji]; exact hk
theorem at_drop {i : Nat} {o : Oper} {rest : List Oper} (h : ops.toList.drop i = o :: rest) : ops[i]? = some o := by
  have e : (ops.toList.drop i)[0]? = some o := by rw [h]; rfl
  simpa [List.getElem?_drop] using e
variable {i : Nat} {oi : Oper} {tl : List Oper} {fuel : Nat} {listed : Array Bool} {a : Act} {w : World}
/-- An operation whose guard is true is taken first. -/
theorem take_yes {v : Value} (hi : ops.toList.drop i = oi :: tl) (hs : Region.noSelect ops = true) (hf : Region.free md ops listed i = true) (hr : (Region.ready md ops listed).contains i = true)
    (hQ : ∀ c a w, Q (.panic c) (a.put oi.dst v) w → Q (.panic c) a w) (hw : Region.wanted oi (yielded ops a.tmps) = true) (hS : S w) (hy : ∀ w, S w → (execOp a.eval oi).run P w = .ok (.value v) w)
    (h : wpAnyH P md ops Q S fuel (listed.setIfInBounds i true) (a.put oi.dst v) w) : wpAnyH P md ops Q S (fuel + 1) listed a w :=
  wpAnyH_take (at_drop hi) hs hf hr hQ (.inl ⟨hw, hy⟩) hS h
/-- As take_yes, told shorter. -/
theorem ty {v : Value} (hi : ops.toList.drop i = oi :: tl) (hS : S w) (hy : ∀ w, S w → (execOp a.eval oi).run P w = .ok (.value v) w)
    (h : wpAnyH P md ops Q S fuel (listed.setIfInBounds i true) (a.put oi.dst v) w) (hs : Region.noSelect ops = true := by kernel_rfl) (hf : Region.free md ops listed i = true := by kernel_rfl) (hr : (Region.ready md ops listed).contains i = true := by kernel_rfl)
    (hQ : ∀ c a w, Q (.panic c) (a.put oi.dst v) w → Q (.panic c) a w := by exact fun _ _ _ h => h) (hw : Region.wanted oi (yielded ops a.tmps) = true := by rfl) : wpAnyH P md ops Q S (fuel + 1) listed a w :=
  take_yes hi hs hf hr hQ hw hS hy h
theorem take_no (hi : ops.toList.drop i = oi :: tl) (hs : Region.noSelect ops = true) (hf : Region.free md ops listed i = true) (hr : (Region.ready md ops listed).contains i = true)
    (hQ : ∀ c a w, Q (.panic c) (a.put oi.dst undef) w → Q (.panic c) a w) (hw : Region.wanted oi (yielded ops a.tmps) = false) (hS : S w)
    (h : wpAnyH P md ops Q S fuel (listed.setIfInBounds i true) (a.put oi.dst undef) w) : wpAnyH P md ops Q S (fuel + 1) listed a w :=
  wpAnyH_take (at_drop hi) hs hf hr hQ (.inr ⟨hw, rfl⟩) hS h
/-- A call that leaves the world as it is is taken first. -/
theorem take_call {f : FuncId} {args : Array Value} {v : Value} (hi : ops.toList.drop i = oi :: tl) (hs : Region.noSelect ops = true) (hf : Region.free md ops listed i = true) (hr : (Region.ready md ops listed).contains i = true)
    (hQ : ∀ c a w, Q (.panic c) (a.put oi.dst v) w → Q (.panic c) a w) (hw : Region.wanted oi (yielded ops a.tmps) = true) (hS : S w) (hy : ∀ w, S w → (execOp a.eval oi).run P w = .ok (.enter f args) w) (hc : ∀ w, S w → Calls P f args w fun e w' => e = .returned v ∧ w = w')
    (h : wpAnyH P md ops Q S fuel (listed.setIfInBounds i true) (a.put oi.dst v) w) : wpAnyH P md ops Q S (fuel + 1) listed a w := by
  refine held_first (at_drop hi) (Region.noSelect_spec hs) hQ (a0 := a) ⟨fun a' he hwa K w' hS' hK => ?_⟩ fuel listed a w ⟨rfl, rfl⟩ (Region.free_spec (at_drop hi) hf) (by simpa using hr) hS h
  unfold wpOp
  rw [at_drop hi]
  dsimp only
  rw [hwa, hw, if_pos rfl]
  left
  unfold Oper.wp
  rw [he, hy w' hS']
  refine (hc w' hS').mono ?_
  rintro e w2 ⟨rfl, rfl⟩
  exact hK
/-- The operations that may come up: one of them comes up. -/
theorem ready_at {rs : List Nat} (ho : ops.toList.drop i = oi :: tl)
    (h : ∀ K' : Act → World → Prop, Shut (∀ a w, S w → (S w → wpAnyH P md ops Q S fuel (listed.setIfInBounds i true) a w) → K' a w) → if Region.wanted oi (yielded ops a.tmps) = true then Oper.wp P oi a w K' Q else K' (a.put oi.dst undef) w)
    (hs : AllReadyH P md ops Q S fuel listed a w rs) : AllReadyH P md ops Q S fuel listed a w (i :: rs) := AllReadyH.cons (at_drop ho) h hs
end
theorem gen_app {K : Act → World → Prop} {a : Act} {w : World} (h : ∀ v, v = w → K a v) : K a w := h w rfl
theorem cell_far (w : World) (q : Addr) (v : Value) (b o : Nat) (h : b ≠ q.block) : (w.setCell q v).cell? ⟨b, o, none⟩ = w.cell? ⟨b, o, none⟩ := by
  unfold World.cell?
  dsimp only
  rw [blk_far w q b v h]
theorem cell_keep (w : World) (o' : Obj) (b o : Nat) (h : b < w.heap.size) : (w.alloc o').cell? ⟨b, o, none⟩ = w.cell? ⟨b, o, none⟩ := by
  unfold World.cell?
  dsimp only
  rw [blk_old w o' b h]
theorem cell_below {w v : World} (h : Below w.heap.size w v) (b o : Nat) (hb : b < w.heap.size) : v.cell? ⟨b, o, none⟩ = w.cell? ⟨b, o, none⟩ := (bcell h).1 b o hb
end Go.Proofs.Ytkgabbenmoocgaa
