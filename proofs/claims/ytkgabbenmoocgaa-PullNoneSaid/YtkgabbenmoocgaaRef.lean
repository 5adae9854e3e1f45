/- The document's own: which rows there are, which is less. -/
import Derived.Test.YtkgabbenmoocgaaPull
namespace Go.Proofs.Ytkgabbenmoocgaa
set_option linter.unusedSimpArgs false
set_option linter.unusedVariables false
set_option linter.unnecessarySimpa false
open Go.RowKit
attribute [local go_sem ↓] Go.wp_at_zero Go.wp_at_succ
attribute [local go_sem] str_len
/-- A slice value of the call's own blocks that reads as a row of cells. -/
def Rk (w : World) (size : Nat) (v : Value) (n : Nat) (xs : List Value) : Prop :=
 xs.length = n * size ∧ ∃ A cap, v = .slice A n cap ∧ (0 < n → ∃ g cs T, A = some ⟨g, 0, none⟩ ∧ w.heap[g]? = some (.cells cs T (0, 0)) ∧ ∀ j, j < n * size → cs[j]? = xs[j]?)
theorem Rk.below {w w' : World} {size n : Nat} {v : Value} {xs : List Value} (h : Rk w size v n xs) (hb : Below w.heap.size w w') : Rk w' size v n xs := by
 obtain ⟨h1, A, cap, rfl, h2⟩ := h
 refine ⟨h1, A, cap, rfl, fun hn => ?_⟩
 obtain ⟨g, cs, T, rfl, hg, hc⟩ := h2 hn
 exact ⟨g, cs, T, rfl, keep_blk hb hg, hc⟩
theorem Rk.of_own {w : World} {base : Nat} {e : TypeId} {size n : Nat} {v : Value} {xs : List Value} (h : w.ownsRow base e size v n xs) : Rk w size v n xs := by
 rcases h.2 with ⟨rfl, h0⟩ | ⟨g, cap, cur, rfl, hg, hc, hcap, hm, hs, hx⟩
 ·
  subst h0; exact ⟨h.1, none, 0, rfl, fun h => absurd h (by omega)⟩
 ·
  refine ⟨h.1, some ⟨g, 0, none⟩, cap, rfl, fun _ => ⟨g, cur, _, rfl, hc, fun j hj => ?_⟩⟩
  rw [← h.cellAt j hj, cells_of hc]
theorem str_from (l : List UInt8) (a : Nat) (h2 : a ≤ l.length) (w : World) :
  (Instr.slice 9 (strOf l) (some (.int .i64 (a : Int))) none none).run Try.prog w = .ok (strOf (l.drop a)) w := by
 unfold strOf
 have h3 : (⟨l.toArray⟩ : ByteArray).size = l.length := by simp [ByteArray.size]
 have := run_slice_string_from_if w 9 ⟨l.toArray⟩ .i64 (a : Int) (P := Try.prog) (by kernel_rfl)
 rw [this, if_pos ⟨by omega, by rw [h3]; omega⟩, h3, Int.toNat_natCast, ByteArray.extract_mk]
 rw [List.take_of_length_le (by simp)]
set_option maxRecDepth 100000 in
set_option maxHeartbeats 2000000 in
theorem rrow_calls (v : Value) (ts : List (List UInt8)) (d a : Nat) (t : List UInt8) (ht : ts[d]? = some t) (ha : a ≤ t.length) (w : World) (h : Rk w 1 v ts.length (ts.map strOf)) :
  Calls Try.prog 74 #[v, .agg #[.int .i64 (d : Int), .int .i64 (a : Int)]] w fun e w' => e = .returned (.bool true) ∧ Below w.heap.size w w' := by
 obtain ⟨hd, -⟩ := List.getElem?_eq_some_iff.1 ht
 obtain ⟨h1, A, cap, rfl, h2⟩ := h
 obtain ⟨g, cs, T, rfl, kg, hcs⟩ := h2 (by omega)
 have hci : cs[d]? = some (strOf t) := by rw [hcs d (by omega), List.getElem?_map, ht]; rfl
 have n1 : (d : Int) < (ts.length : Int) := by omega
 have n2 : (a : Int) ≤ (t.length : Int) := by omega
 clear h1 h2 hcs ht
 go_enter Try.func74, Try.ntmps74
 have c_kg := cells_of kg
 have f_kg := free_of kg
 have l_kg_w := lt_of kg
 go_wp2_with fail
 refine wp_gen fun V hV_V => ?_
 have n_kg := congrArg (fun v : World => v.heap[g]?) hV_V
 simp (maxDischargeDepth := 9) only [BK, not_false_eq_true, reduceCtorEq, kg, l_kg_w] at n_kg
 have n_kr := congrArg (fun v : World => v.heap[w.heap.size]?) hV_V
 simp (maxDischargeDepth := 9) only [BK, not_false_eq_true, reduceCtorEq, kg, l_kg_w] at n_kr
 have n_B : Below w.heap.size w V := nB hV_V
 have z_V := Nat.le_of_eq (congrArg (fun v : World => v.heap.size) hV_V).symm
 try simp only [SZ] at z_V
 clear kg c_kg f_kg
 clear hV_V
 skip
 have hB := n_B
 clear n_B
 have kg := n_kg; clear n_kg
 have c_kg := cells_of kg
 have f_kg := free_of kg
 have l_kg_V := lt_of kg
 have kr := n_kr; clear n_kr
 have c_kr := cells_of kr
 have f_kr := free_of kr
 have l_kr_V := lt_of kr
 refine wp_region_noPanic ?_
 refine wp_region_held_drew (S := fun v => (∀ o, v.cell? ⟨g, o, none⟩ = V.cell? ⟨g, o, none⟩) ∧ (∀ o, v.cell? ⟨w.heap.size, o, none⟩ = V.cell? ⟨w.heap.size, o, none⟩) ∧ (V.heap.size ≤ v.heap.size) ∧ True) (by kernel_rfl) ⟨(fun _ => rfl), (fun _ => rfl), (Nat.le_refl _), trivial⟩ (fun hHeld => ?_)
 generalize hV_Vd : V.drew = Vd at hHeld ⊢
 have n_kg : Vd.heap[g]? = V.heap[g]? := by rw [← hV_Vd]; rfl
 have d_kg := n_kg.trans kg
 clear n_kg c_kg f_kg
 have n_kr : Vd.heap[w.heap.size]? = V.heap[w.heap.size]? := by rw [← hV_Vd]; rfl
 have d_kr := n_kr.trans kr
 clear n_kr c_kr f_kr
 have n_B : Below w.heap.size w Vd := by rw [← hV_Vd]; exact hB.drew
 clear hB; have hB := n_B; clear n_B
 have z_Vd : V.heap.size ≤ Vd.heap.size := by rw [← hV_Vd]; exact Nat.le_refl _
 have v_kg := cells_of kg
 have v_kr := cells_of kr
 clear kg; have kg := d_kg; clear d_kg
 clear kr; have kr := d_kr; clear d_kr
 have c_kg := cells_of kg
 have f_kg := free_of kg
 have l_kg_Vd := lt_of kg
 have c_kr := cells_of kr
 have f_kr := free_of kr
 have l_kr_Vd := lt_of kr
 clear hV_Vd
 refine ty (i := 0) (v := ?_) rfl hHeld ?_ ?_
 rotate_left
 focus (intro w hSw; go_simp; (try simp only [IntWalk.i64_left]); try (with_reducible rfl))
 try simp only [PT]
 refine ty (i := 1) (v := ?_) rfl hHeld ?_ ?_
 rotate_left
 focus (intro w hSw; go_simp; (try simp only [IntWalk.i64_left]); try (with_reducible rfl))
 try simp only [PT]
 refine ty (i := 2) (v := ?_) rfl hHeld ?_ ?_
 rotate_left
 focus (intro w hSw; go_simp; (try simp only [IntWalk.i64_left]); try (with_reducible rfl))
 try simp only [PT]
 refine ty (i := 3) (v := ?_) rfl hHeld ?_ ?_
 rotate_left
 focus (intro w hSw; go_simp; (try simp only [IntWalk.i64_left]); try (with_reducible rfl))
 try simp only [PT]
 refine ty (i := 4) (v := ?_) rfl hHeld ?_ ?_
 rotate_left
 focus (intro w hSw; go_simp; (try simp only [IntWalk.i64_left]); try (with_reducible rfl))
 try simp only [PT]
 refine ty (i := 5) (v := ?_) rfl hHeld ?_ ?_
 rotate_left
 focus (intro w hSw; go_simp; (try simp only [IntWalk.i64_left]); try (with_reducible rfl))
 try simp only [PT]
 refine ty (i := 6) (v := ?_) rfl hHeld ?_ ?_
 rotate_left
 focus (intro w hSw; go_simp; (try simp only [IntWalk.i64_left]); try (with_reducible rfl))
 try simp only [PT]
 refine ty (i := 7) (v := ?_) rfl hHeld ?_ ?_
 rotate_left
 focus (intro w hSw; go_simp; (try simp only [IntWalk.i64_left]); try (with_reducible rfl))
 try simp only [PT]
 refine ty (i := 8) (v := ?_) rfl hHeld ?_ ?_
 rotate_left
 focus (intro w hSw; go_simp; (try simp only [IntWalk.i64_left]); try (with_reducible rfl))
 try simp only [PT]
 refine ty (i := 9) (v := ?_) rfl hHeld ?_ ?_
 rotate_left
 focus (intro w hSw; go_simp; (try simp only [IntWalk.i64_left]); try (with_reducible rfl))
 try simp only [PT]
 refine ty (i := 10) (v := ?_) rfl hHeld ?_ ?_
 rotate_left
 focus (intro w hSw; go_simp; (try simp only [IntWalk.i64_left]); try (with_reducible rfl))
 try simp only [PT]
 refine ty (i := 11) (v := ?_) rfl hHeld ?_ ?_
 rotate_left
 focus (intro w hSw; go_simp; (try simp only [IntWalk.i64_left]); try (with_reducible rfl))
 try simp only [PT]
 refine ty (i := 12) (v := ?_) rfl hHeld ?_ ?_
 rotate_left
 focus (intro w hSw; go_simp; (try simp only [IntWalk.i64_left]); try (with_reducible rfl))
 try simp only [PT]
 refine ty (i := 13) (v := ?_) rfl hHeld ?_ ?_
 rotate_left
 focus (intro w hSw; go_simp; (try simp only [IntWalk.i64_left]); try (with_reducible rfl))
 try simp only [PT]
 refine ty (i := 14) (v := ?_) rfl hHeld ?_ ?_
 rotate_left
 focus (intro w hSw; go_simp; (try simp only [IntWalk.i64_left]); try (with_reducible rfl))
 try simp only [PT]
 refine ty (i := 15) (v := ?_) rfl hHeld ?_ ?_
 rotate_left
 focus (intro w hSw; go_simp; (try simp only [IntWalk.i64_left]); try (with_reducible rfl))
 try simp only [PT]
 refine ty (i := 16) (v := ?_) rfl hHeld ?_ ?_
 rotate_left
 focus (intro w hSw; go_simp; (try simp only [IntWalk.i64_left]); try (with_reducible rfl))
 try simp only [PT]
 refine ty (i := 17) (v := ?_) rfl hHeld ?_ ?_
 rotate_left
 focus (intro w hSw; go_simp; (try simp only [IntWalk.i64_left]); try (with_reducible rfl))
 try simp only [PT]
 refine ty (i := 18) (v := ?_) rfl hHeld ?_ ?_
 rotate_left
 focus (intro w hSw; go_simp; (try simp only [IntWalk.i64_left]); try (with_reducible rfl))
 try simp only [PT]
 refine ty (i := 19) (v := ?_) rfl hHeld ?_ ?_
 rotate_left
 focus (intro w hSw; go_simp; (try simp only [IntWalk.i64_left]); try (with_reducible rfl))
 try simp only [PT]
 refine ty (i := 20) (v := ?_) rfl hHeld ?_ ?_
 rotate_left
 focus (intro w hSw; go_simp; (try simp only [IntWalk.i64_left]); try (with_reducible rfl))
 try simp only [PT]
 refine ty (i := 21) (v := ?_) rfl hHeld ?_ ?_
 rotate_left
 focus (intro w hSw; go_simp; (try simp only [IntWalk.i64_left]); try (with_reducible rfl))
 try simp only [PT]
 refine ty (i := 22) (v := ?_) rfl hHeld ?_ ?_
 rotate_left
 focus (intro w hSw; go_simp; (try simp only [IntWalk.i64_left]); try (with_reducible rfl))
 try simp only [PT]
 refine ty (i := 23) (v := ?_) rfl hHeld ?_ ?_
 rotate_left
 focus (intro w hSw; go_simp; (try simp only [IntWalk.i64_left]); try (with_reducible rfl))
 try simp only [PT]
 refine ty (i := 24) (v := ?_) rfl hHeld ?_ ?_
 rotate_left
 focus (intro w hSw; go_simp; (try simp only [IntWalk.i64_left]); try (with_reducible rfl))
 try simp only [PT]
 refine ty (i := 25) (v := ?_) rfl hHeld ?_ ?_
 rotate_left
 focus (intro w hSw; go_simp; (try simp only [IntWalk.i64_left]); try (with_reducible rfl))
 try simp only [PT]
 refine wpAnyH_ready (rs := [26]) (by kernel_rfl) (by simp) ?_
 refine ready_at rfl (fun K hK => ?_) AllReadyH.nil
 go_simp
 refine hK.out _ _ hHeld (fun hHeld => ?_)
 clear hK K
 try simp only [PT]
 refine wpAnyH_done (by kernel_rfl) ?_ _
 refine NoPanic.normal ?_
 go_wp2_with fail
 go_ret
 exact ⟨rfl, hB⟩
/-- Which of two texts is less; d: what is told of two that are alike. -/
def lessL (d : Bool) : List UInt8 → List UInt8 → Bool
 | [], [] => d
 | [], _ :: _ => true
 | _ :: _, [] => false
 | x :: s, y :: t => if x = y then lessL d s t else decide (x.toNat < y.toNat)
theorem drop_at {α : Type} {l : List α} {i : Nat} {x : α} (h : l[i]? = some x) : l.drop i = x :: l.drop (i + 1) := by
 obtain ⟨h1, rfl⟩ := List.getElem?_eq_some_iff.1 h
 exact List.drop_eq_getElem_cons h1
theorem at_some {α : Type} {l : List α} {i : Nat} (h : i < l.length) : ∃ x, l[i]? = some x := ⟨l[i], List.getElem?_eq_getElem h⟩
set_option maxRecDepth 100000 in
set_option maxHeartbeats 4000000 in
theorem less_calls (v : Value) (ts : List (List UInt8)) (d1 a1 d2 a2 : Nat) (t1 t2 : List UInt8) (ht1 : ts[d1]? = some t1) (ha1 : a1 ≤ t1.length) (ht2 : ts[d2]? = some t2) (ha2 : a2 ≤ t2.length) (hl1 : t1.length ≤ 50000) (r : Bool) (hr : lessL (decide (d1 < d2)) (t1.drop a1) (t2.drop a2) = r) (w : World) (h : Rk w 1 v ts.length (ts.map strOf)) :
  Calls Try.prog 49 #[v, .agg #[.int .i64 (d1 : Int), .int .i64 (a1 : Int)], .agg #[.int .i64 (d2 : Int), .int .i64 (a2 : Int)]] w fun e w' => e = .returned (.bool r) ∧ Below w.heap.size w w' := by
 obtain ⟨hd1, -⟩ := List.getElem?_eq_some_iff.1 ht1
 obtain ⟨hd2, -⟩ := List.getElem?_eq_some_iff.1 ht2
 obtain ⟨h1, A, cap, rfl, h2⟩ := h
 obtain ⟨g, cs, T, rfl, kg, hcs⟩ := h2 (by omega)
 have hc1 : cs[d1]? = some (strOf t1) := by rw [hcs d1 (by omega), List.getElem?_map, ht1]; rfl
 have hc2 : cs[d2]? = some (strOf t2) := by rw [hcs d2 (by omega), List.getElem?_map, ht2]; rfl
 have n1 : (d1 : Int) < (ts.length : Int) := by omega
 have n2 : (d2 : Int) < (ts.length : Int) := by omega
 have f1 := str_from t1 a1 ha1
 have f2 := str_from t2 a2 ha2
 have HR := Lib.hid hr; clear hr
 have Hcs := Lib.hid hcs; have H1 := Lib.hid h1; have HT1 := Lib.hid ht1; have HT2 := Lib.hid ht2; have HA1 := Lib.hid ha1; have HA2 := Lib.hid ha2
 clear h1 h2 hcs ht1 ht2 hd1 hd2 ha1 ha2
 go_enter Try.func49, Try.ntmps49
 have c_kg := cells_of kg
 have f_kg := free_of kg
 have l_kg_w := lt_of kg
 go_wp2_with fail
 refine calls_gen fun V hV_V => ?_
 have n_kg := congrArg (fun v : World => v.heap[g]?) hV_V
 simp (maxDischargeDepth := 9) only [BK, not_false_eq_true, reduceCtorEq, kg, l_kg_w] at n_kg
 have n_ka := congrArg (fun v : World => v.heap[w.heap.size]?) hV_V
 simp (maxDischargeDepth := 9) only [BK, not_false_eq_true, reduceCtorEq, kg, l_kg_w] at n_ka
 have n_kb := congrArg (fun v : World => v.heap[w.heap.size + 1]?) hV_V
 simp (maxDischargeDepth := 9) only [BK, not_false_eq_true, reduceCtorEq, kg, l_kg_w] at n_kb
 have n_B : Below w.heap.size w V := nB hV_V
 have z_V := Nat.le_of_eq (congrArg (fun v : World => v.heap.size) hV_V).symm
 try simp only [SZ] at z_V
 clear kg c_kg f_kg
 clear hV_V
 skip
 have hB := n_B
 clear n_B
 have kg := n_kg; clear n_kg
 have c_kg := cells_of kg
 have f_kg := free_of kg
 have l_kg_V := lt_of kg
 have ka := n_ka; clear n_ka
 have c_ka := cells_of ka
 have f_ka := free_of ka
 have l_ka_V := lt_of ka
 have kb := n_kb; clear n_kb
 have c_kb := cells_of kb
 have f_kb := free_of kb
 have l_kb_V := lt_of kb
 refine (rrow_calls _ ts d1 a1 t1 HT1.out HA1.out _ ⟨H1.out, _, _, rfl, fun _ => ⟨g, cs, T, rfl, kg, Hcs.out⟩⟩).mono ?_
 rintro e_W1 W1 ⟨rfl, hb_W1⟩
 replace hB := below_step hB hb_W1
 replace kg := keep_blk hb_W1 kg
 have c_kg := cells_of kg
 have f_kg := free_of kg
 have l_kg_W1 := lt_of kg
 replace ka := keep_blk hb_W1 ka
 have c_ka := cells_of ka
 have f_ka := free_of ka
 have l_ka_W1 := lt_of ka
 replace kb := keep_blk hb_W1 kb
 have c_kb := cells_of kb
 have f_kb := free_of kb
 have l_kb_W1 := lt_of kb
 have z_W1 := hb_W1.size
 clear hb_W1
 go_wp2_with fail
 refine calls_gen fun V1 hV_V1 => ?_
 have n_kg := congrArg (fun v : World => v.heap[g]?) hV_V1
 simp (maxDischargeDepth := 9) only [BK, not_false_eq_true, reduceCtorEq, kg, ka, kb, l_kg_w, l_kg_V, l_ka_V, l_kb_V, l_kg_W1, l_ka_W1, l_kb_W1] at n_kg
 have n_ka := congrArg (fun v : World => v.heap[w.heap.size]?) hV_V1
 simp (maxDischargeDepth := 9) only [BK, not_false_eq_true, reduceCtorEq, kg, ka, kb, l_kg_w, l_kg_V, l_ka_V, l_kb_V, l_kg_W1, l_ka_W1, l_kb_W1] at n_ka
 have n_kb := congrArg (fun v : World => v.heap[w.heap.size + 1]?) hV_V1
 simp (maxDischargeDepth := 9) only [BK, not_false_eq_true, reduceCtorEq, kg, ka, kb, l_kg_w, l_kg_V, l_ka_V, l_kb_V, l_kg_W1, l_ka_W1, l_kb_W1] at n_kb
 have n_B : Below w.heap.size w V1 := nB hV_V1
 have z_V1 := Nat.le_of_eq (congrArg (fun v : World => v.heap.size) hV_V1).symm
 try simp only [SZ] at z_V1
 clear kg c_kg f_kg
 clear ka c_ka f_ka
 clear kb c_kb f_kb
 clear hV_V1
 clear hB
 have hB := n_B
 clear n_B
 have kg := n_kg; clear n_kg
 have c_kg := cells_of kg
 have f_kg := free_of kg
 have l_kg_V1 := lt_of kg
 have ka := n_ka; clear n_ka
 have c_ka := cells_of ka
 have f_ka := free_of ka
 have l_ka_V1 := lt_of ka
 have kb := n_kb; clear n_kb
 have c_kb := cells_of kb
 have f_kb := free_of kb
 have l_kb_V1 := lt_of kb
 refine (rrow_calls _ ts d2 a2 t2 HT2.out HA2.out _ ⟨H1.out, _, _, rfl, fun _ => ⟨g, cs, T, rfl, kg, Hcs.out⟩⟩).mono ?_
 rintro e_W2 W2 ⟨rfl, hb_W2⟩
 replace hB := below_step hB hb_W2
 replace kg := keep_blk hb_W2 kg
 have c_kg := cells_of kg
 have f_kg := free_of kg
 have l_kg_W2 := lt_of kg
 replace ka := keep_blk hb_W2 ka
 have c_ka := cells_of ka
 have f_ka := free_of ka
 have l_ka_W2 := lt_of ka
 replace kb := keep_blk hb_W2 kb
 have c_kb := cells_of kb
 have f_kb := free_of kb
 have l_kb_W2 := lt_of kb
 have z_W2 := hb_W2.size
 clear hb_W2
 go_wp2_with fail
 refine wp_gen fun V2 hV_V2 => ?_
 have n_kg := congrArg (fun v : World => v.heap[g]?) hV_V2
 simp (maxDischargeDepth := 9) only [BK, not_false_eq_true, reduceCtorEq, kg, ka, kb, l_kg_w, l_kg_V, l_ka_V, l_kb_V, l_kg_W1, l_ka_W1, l_kb_W1, l_kg_V1, l_ka_V1, l_kb_V1, l_kg_W2, l_ka_W2, l_kb_W2] at n_kg
 have n_ka := congrArg (fun v : World => v.heap[w.heap.size]?) hV_V2
 simp (maxDischargeDepth := 9) only [BK, not_false_eq_true, reduceCtorEq, kg, ka, kb, l_kg_w, l_kg_V, l_ka_V, l_kb_V, l_kg_W1, l_ka_W1, l_kb_W1, l_kg_V1, l_ka_V1, l_kb_V1, l_kg_W2, l_ka_W2, l_kb_W2] at n_ka
 have n_kb := congrArg (fun v : World => v.heap[w.heap.size + 1]?) hV_V2
 simp (maxDischargeDepth := 9) only [BK, not_false_eq_true, reduceCtorEq, kg, ka, kb, l_kg_w, l_kg_V, l_ka_V, l_kb_V, l_kg_W1, l_ka_W1, l_kb_W1, l_kg_V1, l_ka_V1, l_kb_V1, l_kg_W2, l_ka_W2, l_kb_W2] at n_kb
 have n_B : Below w.heap.size w V2 := nB hV_V2
 have z_V2 := Nat.le_of_eq (congrArg (fun v : World => v.heap.size) hV_V2).symm
 try simp only [SZ] at z_V2
 clear kg c_kg f_kg
 clear ka c_ka f_ka
 clear kb c_kb f_kb
 clear hV_V2
 clear hB
 have hB := n_B
 clear n_B
 have kg := n_kg; clear n_kg
 have c_kg := cells_of kg
 have f_kg := free_of kg
 have l_kg_V2 := lt_of kg
 have ka := n_ka; clear n_ka
 have c_ka := cells_of ka
 have f_ka := free_of ka
 have l_ka_V2 := lt_of ka
 have kb := n_kb; clear n_kb
 have c_kb := cells_of kb
 have f_kb := free_of kb
 have l_kb_V2 := lt_of kb
 refine wp_region_noPanic ?_
 refine wp_region_held_drew (S := fun v => (∀ o, v.cell? ⟨g, o, none⟩ = V2.cell? ⟨g, o, none⟩) ∧ (∀ o, v.cell? ⟨w.heap.size, o, none⟩ = V2.cell? ⟨w.heap.size, o, none⟩) ∧ (∀ o, v.cell? ⟨w.heap.size + 1, o, none⟩ = V2.cell? ⟨w.heap.size + 1, o, none⟩) ∧ (V2.heap.size ≤ v.heap.size) ∧ True) (by kernel_rfl) ⟨(fun _ => rfl), (fun _ => rfl), (fun _ => rfl), (Nat.le_refl _), trivial⟩ (fun hHeld => ?_)
 generalize hV_V2d : V2.drew = V2d at hHeld ⊢
 have n_kg : V2d.heap[g]? = V2.heap[g]? := by rw [← hV_V2d]; rfl
 have d_kg := n_kg.trans kg
 clear n_kg c_kg f_kg
 have n_ka : V2d.heap[w.heap.size]? = V2.heap[w.heap.size]? := by rw [← hV_V2d]; rfl
 have d_ka := n_ka.trans ka
 clear n_ka c_ka f_ka
 have n_kb : V2d.heap[w.heap.size + 1]? = V2.heap[w.heap.size + 1]? := by rw [← hV_V2d]; rfl
 have d_kb := n_kb.trans kb
 clear n_kb c_kb f_kb
 have n_B : Below w.heap.size w V2d := by rw [← hV_V2d]; exact hB.drew
 clear hB; have hB := n_B; clear n_B
 have z_V2d : V2.heap.size ≤ V2d.heap.size := by rw [← hV_V2d]; exact Nat.le_refl _
 have v_kg := cells_of kg
 have v_ka := cells_of ka
 have v_kb := cells_of kb
 clear kg; have kg := d_kg; clear d_kg
 clear ka; have ka := d_ka; clear d_ka
 clear kb; have kb := d_kb; clear d_kb
 have c_kg := cells_of kg
 have f_kg := free_of kg
 have l_kg_V2d := lt_of kg
 have c_ka := cells_of ka
 have f_ka := free_of ka
 have l_ka_V2d := lt_of ka
 have c_kb := cells_of kb
 have f_kb := free_of kb
 have l_kb_V2d := lt_of kb
 clear hV_V2d
 refine ty (i := 0) (v := ?_) rfl hHeld ?_ ?_
 rotate_left
 focus (intro w hSw; go_simp; (try simp only [IntWalk.i64_left]); try (with_reducible rfl))
 try simp only [PT]
 refine ty (i := 1) (v := ?_) rfl hHeld ?_ ?_
 rotate_left
 focus (intro w hSw; go_simp; (try simp only [IntWalk.i64_left]); try (with_reducible rfl))
 try simp only [PT]
 refine ty (i := 2) (v := ?_) rfl hHeld ?_ ?_
 rotate_left
 focus (intro w hSw; go_simp; (try simp only [IntWalk.i64_left]); try (with_reducible rfl))
 try simp only [PT]
 refine ty (i := 3) (v := ?_) rfl hHeld ?_ ?_
 rotate_left
 focus (intro w hSw; go_simp; (try simp only [IntWalk.i64_left]); try (with_reducible rfl))
 try simp only [PT]
 refine ty (i := 4) (v := ?_) rfl hHeld ?_ ?_
 rotate_left
 focus (intro w hSw; go_simp; (try simp only [IntWalk.i64_left]); try (with_reducible rfl))
 try simp only [PT]
 refine ty (i := 5) (v := ?_) rfl hHeld ?_ ?_
 rotate_left
 focus (intro w hSw; go_simp; (try simp only [IntWalk.i64_left]); try (with_reducible rfl))
 try simp only [PT]
 refine ty (i := 6) (v := ?_) rfl hHeld ?_ ?_
 rotate_left
 focus (intro w hSw; go_simp; (try simp only [IntWalk.i64_left]); try (with_reducible rfl))
 try simp only [PT]
 refine ty (i := 7) (v := ?_) rfl hHeld ?_ ?_
 rotate_left
 focus (intro w hSw; go_simp; (try simp only [IntWalk.i64_left]); try (with_reducible rfl))
 try simp only [PT]
 refine ty (i := 8) (v := ?_) rfl hHeld ?_ ?_
 rotate_left
 focus (intro w hSw; go_simp; (try simp only [IntWalk.i64_left]); try (with_reducible rfl))
 try simp only [PT]
 refine ty (i := 9) (v := ?_) rfl hHeld ?_ ?_
 rotate_left
 focus (intro w hSw; go_simp; (try simp only [IntWalk.i64_left]); try (with_reducible rfl))
 try simp only [PT]
 refine ty (i := 10) (v := ?_) rfl hHeld ?_ ?_
 rotate_left
 focus (intro w hSw; go_simp; (try simp only [IntWalk.i64_left]); try (with_reducible rfl))
 try simp only [PT]
 refine ty (i := 11) (v := ?_) rfl hHeld ?_ ?_
 rotate_left
 focus (intro w hSw; go_simp; (try simp only [IntWalk.i64_left]); try (with_reducible rfl))
 try simp only [PT]
 refine ty (i := 12) (v := ?_) rfl hHeld ?_ ?_
 rotate_left
 focus (intro w hSw; go_simp; (try simp only [IntWalk.i64_left]); try (with_reducible rfl))
 try simp only [PT]
 refine ty (i := 13) (v := ?_) rfl hHeld ?_ ?_
 rotate_left
 focus (intro w hSw; go_simp; (try simp only [IntWalk.i64_left]); try (with_reducible rfl))
 try simp only [PT]
 refine ty (i := 14) (v := ?_) rfl hHeld ?_ ?_
 rotate_left
 focus (intro w hSw; go_simp; (try simp only [IntWalk.i64_left]); try (with_reducible rfl))
 try simp only [PT]
 refine ty (i := 15) (v := ?_) rfl hHeld ?_ ?_
 rotate_left
 focus (intro w hSw; go_simp; (try simp only [IntWalk.i64_left]); try (with_reducible rfl))
 try simp only [PT]
 refine wpAnyH_ready (rs := [16]) (by kernel_rfl) (by simp) ?_
 refine ready_at rfl (fun K hK => ?_) AllReadyH.nil
 go_simp
 refine hK.out _ _ hHeld (fun hHeld => ?_)
 clear hK K
 try simp only [PT]
 refine wpAnyH_ready (rs := [17]) (by kernel_rfl) (by simp) ?_
 refine ready_at rfl (fun K hK => ?_) AllReadyH.nil
 go_simp
 refine hK.out _ _ hHeld (fun hHeld => ?_)
 clear hK K
 try simp only [PT]
 refine wpAnyH_done (by kernel_rfl) ?_ _
 refine NoPanic.normal ?_
 clear f1 f2 hc1 hc2 n1 n2 Hcs H1 HT1 HT2 HA1 HA2
 go_wp2_with fail
 refine wp_gen fun V3 hV_V3 => ?_
 have n_ka := congrArg (fun v : World => v.heap[w.heap.size]?) hV_V3
 simp (maxDischargeDepth := 9) only [BK, not_false_eq_true, reduceCtorEq, kg, ka, kb, l_kg_w, l_kg_V, l_ka_V, l_kb_V, l_kg_W1, l_ka_W1, l_kb_W1, l_kg_V1, l_ka_V1, l_kb_V1, l_kg_W2, l_ka_W2, l_kb_W2, l_kg_V2, l_ka_V2, l_kb_V2, l_kg_V2d, l_ka_V2d, l_kb_V2d] at n_ka
 have n_kb := congrArg (fun v : World => v.heap[w.heap.size + 1]?) hV_V3
 simp (maxDischargeDepth := 9) only [BK, not_false_eq_true, reduceCtorEq, kg, ka, kb, l_kg_w, l_kg_V, l_ka_V, l_kb_V, l_kg_W1, l_ka_W1, l_kb_W1, l_kg_V1, l_ka_V1, l_kb_V1, l_kg_W2, l_ka_W2, l_kb_W2, l_kg_V2, l_ka_V2, l_kb_V2, l_kg_V2d, l_ka_V2d, l_kb_V2d] at n_kb
 have n_B : Below w.heap.size w V3 := nB hV_V3
 have z_V3 := Nat.le_of_eq (congrArg (fun v : World => v.heap.size) hV_V3).symm
 try simp only [SZ] at z_V3
 clear kg c_kg f_kg
 clear ka c_ka f_ka
 clear kb c_kb f_kb
 clear hV_V3
 clear hB
 have hB := n_B
 clear n_B
 have ka := n_ka; clear n_ka
 have c_ka := cells_of ka
 have f_ka := free_of ka
 have l_ka_V3 := lt_of ka
 have kb := n_kb; clear n_kb
 have c_kb := cells_of kb
 have f_kb := free_of kb
 have l_kb_V3 := lt_of kb
 have hs0 : (t1.drop a1).length ≤ 50000 := by rw [List.length_drop]; omega
 generalize t1.drop a1 = s at HR hs0 ⊢
 generalize t2.drop a2 = t at HR ⊢
 go_loopg [9] (s.length + 1) (fun k p wr => ∃ i : Nat, p = .int .i64 (i : Int) ∧ i + k = s.length + 1 ∧ i ≤ s.length ∧ i ≤ t.length ∧ Hid (lessL (decide (d1 < d2)) (s.drop i) (t.drop i) = r) ∧ wr.heap[w.heap.size]? = some (.cells #[.int .i64 (d1 : Int), .int .i64 (a1 : Int)] 72 (0, 0)) ∧ wr.heap[w.heap.size + 1]? = some (.cells #[.int .i64 (d2 : Int), .int .i64 (a2 : Int)] 72 (0, 0)) ∧ Below w.heap.size w wr)
 case atStart => exact ⟨0, rfl, by omega, by omega, by omega, HR, ka, kb, hB⟩
 case round =>
  clear ka kb c_ka c_kb f_ka f_kb hB HR
  obtain ⟨i, rfl, hk, hi1, hi2, Hl, ka, kb, hB⟩ := hrel
  have c_ka := cells_of ka
  have f_ka := free_of ka
  have l_ka_wr := lt_of ka
  have c_kb := cells_of kb
  have f_kb := free_of kb
  have l_kb_wr := lt_of kb
  by_cases c1 : i = s.length
  ·
   have e1 : s.drop i = [] := by rw [c1]; simp
   by_cases c2 : i = t.length
   ·
    have e2 : t.drop i = [] := by rw [c2]; simp
    have hl := Hl.out
    rw [e1, e2] at hl
    unfold lessL at hl
    have hL := Lib.hid hl
    have q1 : ((i : Int) == (s.length : Int)) = true := by rw [c1]; exact beq_self_eq_true _
    have q2 : ((i : Int) == (t.length : Int)) = true := by rw [c2]; exact beq_self_eq_true _
    clear hl Hl e1 e2 hk hi1 hi2 c1 c2
    go_wp2_with fail
    go_ret
    exact ⟨by rw [← hL.out]; first | rfl | simp, by (repeat' first | with_reducible assumption | with_reducible exact Below.refl _ _ | with_reducible refine Below.alloc ?_ ?_ _ | with_reducible refine Below.setCell ?_ ?_ _ | with_reducible refine below_drewN ?_ _ | with_reducible refine Below.drew ?_ | exact Nat.le_refl _ | ((try dsimp only); omega) | (simp only [siz_alloc, siz_set]; omega))⟩
   ·
    obtain ⟨y, hy⟩ := at_some (show i < t.length by omega)
    have e2 := drop_at hy
    clear hy
    have hl := Hl.out
    rw [e1, e2] at hl
    unfold lessL at hl
    have hL := Lib.hid hl
    have q1 : ((i : Int) == (s.length : Int)) = true := by rw [c1]; exact beq_self_eq_true _
    have q2 : ((i : Int) == (t.length : Int)) = false := by rw [beq_eq_false_iff_ne]; omega
    clear hl Hl e1 e2 hk hi1 hi2 c1 c2
    go_wp2_with fail
    go_ret
    exact ⟨by rw [← hL.out]; rfl, by (repeat' first | with_reducible assumption | with_reducible exact Below.refl _ _ | with_reducible refine Below.alloc ?_ ?_ _ | with_reducible refine Below.setCell ?_ ?_ _ | with_reducible refine below_drewN ?_ _ | with_reducible refine Below.drew ?_ | exact Nat.le_refl _ | ((try dsimp only); omega) | (simp only [siz_alloc, siz_set]; omega))⟩
  ·
   have q1 : ((i : Int) == (s.length : Int)) = false := by rw [beq_eq_false_iff_ne]; omega
   obtain ⟨x, hx⟩ := at_some (show i < s.length by omega)
   have e1 := drop_at hx
   by_cases c2 : i = t.length
   ·
    have e2 : t.drop i = [] := by rw [c2]; simp
    have hl := Hl.out
    rw [e1, e2] at hl
    unfold lessL at hl
    have hL := Lib.hid hl
    have q2 : ((i : Int) == (t.length : Int)) = true := by rw [c2]; exact beq_self_eq_true _
    clear hl Hl e1 e2 hk hi1 hi2 c1 c2 hx
    go_wp2_with fail
    go_ret
    exact ⟨by rw [← hL.out]; rfl, by (repeat' first | with_reducible assumption | with_reducible exact Below.refl _ _ | with_reducible refine Below.alloc ?_ ?_ _ | with_reducible refine Below.setCell ?_ ?_ _ | with_reducible refine below_drewN ?_ _ | with_reducible refine Below.drew ?_ | exact Nat.le_refl _ | ((try dsimp only); omega) | (simp only [siz_alloc, siz_set]; omega))⟩
   ·
    have q2 : ((i : Int) == (t.length : Int)) = false := by rw [beq_eq_false_iff_ne]; omega
    obtain ⟨y, hy⟩ := at_some (show i < t.length by omega)
    have e2 := drop_at hy
    have g1 := str_index s i x hx
    have g2 := str_index t i y hy
    have hl := Hl.out
    rw [e1, e2] at hl
    unfold lessL at hl
    have hi1' : i < s.length := by omega
    have hi2' : i < t.length := by omega
    clear Hl e1 e2 hx hy c1 c2
    by_cases c3 : x = y
    ·
     rw [if_pos c3] at hl
     subst c3
     have hL := Lib.hid hl
     have Hk := Lib.hid hk; have Hi := Lib.hid (And.intro hi1' hi2')
     have e3 : wrap64 ((i : Int) + 1) = (i : Int) + 1 := IntWalk.wrap64_in _ (by omega)
     clear hl hk hi1 hi2 hi1' hi2'
     go_wp2_with fail
     refine wp_gen fun V4 hV_V4 => ?_
     have n_ka := congrArg (fun v : World => v.heap[w.heap.size]?) hV_V4
     simp (maxDischargeDepth := 9) only [BK, not_false_eq_true, reduceCtorEq, ka, kb, l_ka_wr, l_kb_wr] at n_ka
     have n_kb := congrArg (fun v : World => v.heap[w.heap.size + 1]?) hV_V4
     simp (maxDischargeDepth := 9) only [BK, not_false_eq_true, reduceCtorEq, ka, kb, l_ka_wr, l_kb_wr] at n_kb
     have n_B : Below w.heap.size w V4 := nB hV_V4
     have z_V4 := Nat.le_of_eq (congrArg (fun v : World => v.heap.size) hV_V4).symm
     try simp only [SZ] at z_V4
     clear ka c_ka f_ka
     clear kb c_kb f_kb
     clear hV_V4
     clear hB
     have hB := n_B
     clear n_B
     have ka := n_ka; clear n_ka
     have c_ka := cells_of ka
     have f_ka := free_of ka
     have l_ka_V4 := lt_of ka
     have kb := n_kb; clear n_kb
     have c_kb := cells_of kb
     have f_kb := free_of kb
     have l_kb_V4 := lt_of kb
     refine wp_region_noPanic ?_
     refine wp_region_held_drew (S := fun v => (∀ o, v.cell? ⟨w.heap.size, o, none⟩ = V4.cell? ⟨w.heap.size, o, none⟩) ∧ (∀ o, v.cell? ⟨w.heap.size + 1, o, none⟩ = V4.cell? ⟨w.heap.size + 1, o, none⟩) ∧ (V4.heap.size ≤ v.heap.size) ∧ True) (by kernel_rfl) ⟨(fun _ => rfl), (fun _ => rfl), (Nat.le_refl _), trivial⟩ (fun hHeld => ?_)
     generalize hV_V4d : V4.drew = V4d at hHeld ⊢
     have n_ka : V4d.heap[w.heap.size]? = V4.heap[w.heap.size]? := by rw [← hV_V4d]; rfl
     have d_ka := n_ka.trans ka
     clear n_ka c_ka f_ka
     have n_kb : V4d.heap[w.heap.size + 1]? = V4.heap[w.heap.size + 1]? := by rw [← hV_V4d]; rfl
     have d_kb := n_kb.trans kb
     clear n_kb c_kb f_kb
     have n_B : Below w.heap.size w V4d := by rw [← hV_V4d]; exact hB.drew
     clear hB; have hB := n_B; clear n_B
     have z_V4d : V4.heap.size ≤ V4d.heap.size := by rw [← hV_V4d]; exact Nat.le_refl _
     have v_ka := cells_of ka
     have v_kb := cells_of kb
     clear ka; have ka := d_ka; clear d_ka
     clear kb; have kb := d_kb; clear d_kb
     have c_ka := cells_of ka
     have f_ka := free_of ka
     have l_ka_V4d := lt_of ka
     have c_kb := cells_of kb
     have f_kb := free_of kb
     have l_kb_V4d := lt_of kb
     clear hV_V4d
     refine ty (i := 0) (v := ?_) rfl hHeld ?_ ?_
     rotate_left
     focus (intro w hSw; go_simp; (try simp only [IntWalk.i64_left]); try (with_reducible rfl))
     try simp only [PT]
     refine ty (i := 1) (v := ?_) rfl hHeld ?_ ?_
     rotate_left
     focus (intro w hSw; go_simp; (try simp only [IntWalk.i64_left]); try (with_reducible rfl))
     try simp only [PT]
     refine ty (i := 2) (v := ?_) rfl hHeld ?_ ?_
     rotate_left
     focus (intro w hSw; go_simp; (try simp only [IntWalk.i64_left]); try (with_reducible rfl))
     try simp only [PT]
     refine ty (i := 3) (v := ?_) rfl hHeld ?_ ?_
     rotate_left
     focus (intro w hSw; go_simp; (try simp only [IntWalk.i64_left]); try (with_reducible rfl))
     try simp only [PT]
     refine ty (i := 4) (v := ?_) rfl hHeld ?_ ?_
     rotate_left
     focus (intro w hSw; go_simp; (try simp only [IntWalk.i64_left]); try (with_reducible rfl))
     try simp only [PT]
     refine ty (i := 5) (v := ?_) rfl hHeld ?_ ?_
     rotate_left
     focus (intro w hSw; go_simp; (try simp only [IntWalk.i64_left]); try (with_reducible rfl))
     try simp only [PT]
     refine ty (i := 6) (v := ?_) rfl hHeld ?_ ?_
     rotate_left
     focus (intro w hSw; go_simp; (try simp only [IntWalk.i64_left]); try (with_reducible rfl))
     try simp only [PT]
     refine wpAnyH_done (by kernel_rfl) ?_ _
     refine NoPanic.normal ?_
     go_wp2_with fail
     refine handed_gen fun V5 hV_V5 => ?_
     have n_ka := congrArg (fun v : World => v.heap[w.heap.size]?) hV_V5
     simp (maxDischargeDepth := 9) only [BK, not_false_eq_true, reduceCtorEq, ka, kb, l_ka_wr, l_kb_wr, l_ka_V4, l_kb_V4, l_ka_V4d, l_kb_V4d] at n_ka
     have n_kb := congrArg (fun v : World => v.heap[w.heap.size + 1]?) hV_V5
     simp (maxDischargeDepth := 9) only [BK, not_false_eq_true, reduceCtorEq, ka, kb, l_ka_wr, l_kb_wr, l_ka_V4, l_kb_V4, l_ka_V4d, l_kb_V4d] at n_kb
     have n_B : Below w.heap.size w V5 := nB hV_V5
     have z_V5 := Nat.le_of_eq (congrArg (fun v : World => v.heap.size) hV_V5).symm
     try simp only [SZ] at z_V5
     clear ka c_ka f_ka
     clear kb c_kb f_kb
     clear hV_V5
     clear hB
     have hB := n_B
     clear n_B
     have ka := n_ka; clear n_ka
     have c_ka := cells_of ka
     have f_ka := free_of ka
     have l_ka_V5 := lt_of ka
     have kb := n_kb; clear n_kb
     have c_kb := cells_of kb
     have f_kb := free_of kb
     have l_kb_V5 := lt_of kb
     go_roundg (s.length - i)
     case measure => have := Hk.out; have := Hi.out; omega
     case rel => exact ⟨i + 1, by rw [e3]; rfl, by have := Hk.out; have := Hi.out; omega, by have := Hi.out; omega, by have := Hi.out; omega, hL, ka, kb, hB⟩
    ·
     rw [if_neg c3] at hl
     have hL := Lib.hid hl
     have q3 : ((x.toNat : Int) == (y.toNat : Int)) = false := by
      rw [beq_eq_false_iff_ne]; intro h; exact c3 (UInt8.toNat_inj.1 (by omega))
     clear hl hk hi1 hi2 hi1' hi2' c3
     go_wp2_with fail
     refine wp_gen fun V4 hV_V4 => ?_
     have n_ka := congrArg (fun v : World => v.heap[w.heap.size]?) hV_V4
     simp (maxDischargeDepth := 9) only [BK, not_false_eq_true, reduceCtorEq, ka, kb, l_ka_wr, l_kb_wr] at n_ka
     have n_kb := congrArg (fun v : World => v.heap[w.heap.size + 1]?) hV_V4
     simp (maxDischargeDepth := 9) only [BK, not_false_eq_true, reduceCtorEq, ka, kb, l_ka_wr, l_kb_wr] at n_kb
     have n_B : Below w.heap.size w V4 := nB hV_V4
     have z_V4 := Nat.le_of_eq (congrArg (fun v : World => v.heap.size) hV_V4).symm
     try simp only [SZ] at z_V4
     clear ka c_ka f_ka
     clear kb c_kb f_kb
     clear hV_V4
     clear hB
     have hB := n_B
     clear n_B
     have ka := n_ka; clear n_ka
     have c_ka := cells_of ka
     have f_ka := free_of ka
     have l_ka_V4 := lt_of ka
     have kb := n_kb; clear n_kb
     have c_kb := cells_of kb
     have f_kb := free_of kb
     have l_kb_V4 := lt_of kb
     refine wp_region_noPanic ?_
     refine wp_region_held_drew (S := fun v => (∀ o, v.cell? ⟨w.heap.size, o, none⟩ = V4.cell? ⟨w.heap.size, o, none⟩) ∧ (∀ o, v.cell? ⟨w.heap.size + 1, o, none⟩ = V4.cell? ⟨w.heap.size + 1, o, none⟩) ∧ (V4.heap.size ≤ v.heap.size) ∧ True) (by kernel_rfl) ⟨(fun _ => rfl), (fun _ => rfl), (Nat.le_refl _), trivial⟩ (fun hHeld => ?_)
     generalize hV_V4d : V4.drew = V4d at hHeld ⊢
     have n_ka : V4d.heap[w.heap.size]? = V4.heap[w.heap.size]? := by rw [← hV_V4d]; rfl
     have d_ka := n_ka.trans ka
     clear n_ka c_ka f_ka
     have n_kb : V4d.heap[w.heap.size + 1]? = V4.heap[w.heap.size + 1]? := by rw [← hV_V4d]; rfl
     have d_kb := n_kb.trans kb
     clear n_kb c_kb f_kb
     have n_B : Below w.heap.size w V4d := by rw [← hV_V4d]; exact hB.drew
     clear hB; have hB := n_B; clear n_B
     have z_V4d : V4.heap.size ≤ V4d.heap.size := by rw [← hV_V4d]; exact Nat.le_refl _
     have v_ka := cells_of ka
     have v_kb := cells_of kb
     clear ka; have ka := d_ka; clear d_ka
     clear kb; have kb := d_kb; clear d_kb
     have c_ka := cells_of ka
     have f_ka := free_of ka
     have l_ka_V4d := lt_of ka
     have c_kb := cells_of kb
     have f_kb := free_of kb
     have l_kb_V4d := lt_of kb
     clear hV_V4d
     refine ty (i := 0) (v := ?_) rfl hHeld ?_ ?_
     rotate_left
     focus (intro w hSw; go_simp; (try simp only [IntWalk.i64_left]); try (with_reducible rfl))
     try simp only [PT]
     refine ty (i := 1) (v := ?_) rfl hHeld ?_ ?_
     rotate_left
     focus (intro w hSw; go_simp; (try simp only [IntWalk.i64_left]); try (with_reducible rfl))
     try simp only [PT]
     refine ty (i := 2) (v := ?_) rfl hHeld ?_ ?_
     rotate_left
     focus (intro w hSw; go_simp; (try simp only [IntWalk.i64_left]); try (with_reducible rfl))
     try simp only [PT]
     refine ty (i := 3) (v := ?_) rfl hHeld ?_ ?_
     rotate_left
     focus (intro w hSw; go_simp; (try simp only [IntWalk.i64_left]); try (with_reducible rfl))
     try simp only [PT]
     refine ty (i := 4) (v := ?_) rfl hHeld ?_ ?_
     rotate_left
     focus (intro w hSw; go_simp; (try simp only [IntWalk.i64_left]); try (with_reducible rfl))
     try simp only [PT]
     refine ty (i := 5) (v := ?_) rfl hHeld ?_ ?_
     rotate_left
     focus (intro w hSw; go_simp; (try simp only [IntWalk.i64_left]); try (with_reducible rfl))
     try simp only [PT]
     refine ty (i := 6) (v := ?_) rfl hHeld ?_ ?_
     rotate_left
     focus (intro w hSw; go_simp; (try simp only [IntWalk.i64_left]); try (with_reducible rfl))
     try simp only [PT]
     refine wpAnyH_done (by kernel_rfl) ?_ _
     refine NoPanic.normal ?_
     go_wp2_with fail
     refine wp_gen fun V5 hV_V5 => ?_
     have n_ka := congrArg (fun v : World => v.heap[w.heap.size]?) hV_V5
     simp (maxDischargeDepth := 9) only [BK, not_false_eq_true, reduceCtorEq, ka, kb, l_ka_wr, l_kb_wr, l_ka_V4, l_kb_V4, l_ka_V4d, l_kb_V4d] at n_ka
     have n_kb := congrArg (fun v : World => v.heap[w.heap.size + 1]?) hV_V5
     simp (maxDischargeDepth := 9) only [BK, not_false_eq_true, reduceCtorEq, ka, kb, l_ka_wr, l_kb_wr, l_ka_V4, l_kb_V4, l_ka_V4d, l_kb_V4d] at n_kb
     have n_B : Below w.heap.size w V5 := nB hV_V5
     have z_V5 := Nat.le_of_eq (congrArg (fun v : World => v.heap.size) hV_V5).symm
     try simp only [SZ] at z_V5
     clear ka c_ka f_ka
     clear kb c_kb f_kb
     clear hV_V5
     clear hB
     have hB := n_B
     clear n_B
     have ka := n_ka; clear n_ka
     have c_ka := cells_of ka
     have f_ka := free_of ka
     have l_ka_V5 := lt_of ka
     have kb := n_kb; clear n_kb
     have c_kb := cells_of kb
     have f_kb := free_of kb
     have l_kb_V5 := lt_of kb
     refine wp_region_noPanic ?_
     refine wp_region_held_drew (S := fun v => (∀ o, v.cell? ⟨w.heap.size, o, none⟩ = V5.cell? ⟨w.heap.size, o, none⟩) ∧ (∀ o, v.cell? ⟨w.heap.size + 1, o, none⟩ = V5.cell? ⟨w.heap.size + 1, o, none⟩) ∧ (V5.heap.size ≤ v.heap.size) ∧ True) (by kernel_rfl) ⟨(fun _ => rfl), (fun _ => rfl), (Nat.le_refl _), trivial⟩ (fun hHeld => ?_)
     generalize hV_V5d : V5.drew = V5d at hHeld ⊢
     have n_ka : V5d.heap[w.heap.size]? = V5.heap[w.heap.size]? := by rw [← hV_V5d]; rfl
     have d_ka := n_ka.trans ka
     clear n_ka c_ka f_ka
     have n_kb : V5d.heap[w.heap.size + 1]? = V5.heap[w.heap.size + 1]? := by rw [← hV_V5d]; rfl
     have d_kb := n_kb.trans kb
     clear n_kb c_kb f_kb
     have n_B : Below w.heap.size w V5d := by rw [← hV_V5d]; exact hB.drew
     clear hB; have hB := n_B; clear n_B
     have z_V5d : V5.heap.size ≤ V5d.heap.size := by rw [← hV_V5d]; exact Nat.le_refl _
     have v_ka := cells_of ka
     have v_kb := cells_of kb
     clear ka; have ka := d_ka; clear d_ka
     clear kb; have kb := d_kb; clear d_kb
     have c_ka := cells_of ka
     have f_ka := free_of ka
     have l_ka_V5d := lt_of ka
     have c_kb := cells_of kb
     have f_kb := free_of kb
     have l_kb_V5d := lt_of kb
     clear hV_V5d
     refine ty (i := 0) (v := ?_) rfl hHeld ?_ ?_
     rotate_left
     focus (intro w hSw; go_simp; (try simp only [IntWalk.i64_left]); try (with_reducible rfl))
     try simp only [PT]
     refine ty (i := 1) (v := ?_) rfl hHeld ?_ ?_
     rotate_left
     focus (intro w hSw; go_simp; (try simp only [IntWalk.i64_left]); try (with_reducible rfl))
     try simp only [PT]
     refine ty (i := 2) (v := ?_) rfl hHeld ?_ ?_
     rotate_left
     focus (intro w hSw; go_simp; (try simp only [IntWalk.i64_left]); try (with_reducible rfl))
     try simp only [PT]
     refine ty (i := 3) (v := ?_) rfl hHeld ?_ ?_
     rotate_left
     focus (intro w hSw; go_simp; (try simp only [IntWalk.i64_left]); try (with_reducible rfl))
     try simp only [PT]
     refine ty (i := 4) (v := ?_) rfl hHeld ?_ ?_
     rotate_left
     focus (intro w hSw; go_simp; (try simp only [IntWalk.i64_left]); try (with_reducible rfl))
     try simp only [PT]
     refine ty (i := 5) (v := ?_) rfl hHeld ?_ ?_
     rotate_left
     focus (intro w hSw; go_simp; (try simp only [IntWalk.i64_left]); try (with_reducible rfl))
     try simp only [PT]
     refine ty (i := 6) (v := ?_) rfl hHeld ?_ ?_
     rotate_left
     focus (intro w hSw; go_simp; (try simp only [IntWalk.i64_left]); try (with_reducible rfl))
     try simp only [PT]
     refine wpAnyH_ready (rs := [7]) (by kernel_rfl) (by simp) ?_
     refine ready_at rfl (fun K hK => ?_) AllReadyH.nil
     go_simp
     refine hK.out _ _ hHeld (fun hHeld => ?_)
     clear hK K
     try simp only [PT]
     refine wpAnyH_done (by kernel_rfl) ?_ _
     refine NoPanic.normal ?_
     go_wp2_with fail
     go_ret

     exact ⟨by rw [← hL.out]; first | rfl | simp, by (repeat' first | with_reducible assumption | with_reducible exact Below.refl _ _ | with_reducible refine Below.alloc ?_ ?_ _ | with_reducible refine Below.setCell ?_ ?_ _ | with_reducible refine below_drewN ?_ _ | with_reducible refine Below.drew ?_ | exact Nat.le_refl _ | ((try dsimp only); omega) | (simp only [siz_alloc, siz_set]; omega))⟩
end Go.Proofs.Ytkgabbenmoocgaa
