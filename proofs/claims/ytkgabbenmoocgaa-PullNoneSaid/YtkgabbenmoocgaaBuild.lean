/- The laws' helper Build. -/
import Derived.Test.YtkgabbenmoocgaaNext
import Derived.Test.YtkgabbenmoocgaaSymbols
namespace Go.Proofs.Ytkgabbenmoocgaa
set_option linter.unusedSimpArgs false
set_option linter.unusedVariables false
set_option linter.unnecessarySimpa false
open Go.RowKit
attribute [local go_sem ↓] Go.wp_at_zero Go.wp_at_succ
attribute [local go_sem] str_len
variable {ap : Value} {s : Ar} {O : Nat → Prop}
theorem cell_same {w w' : World} {a : Addr} (h : w'.heap[a.block]? = w.heap[a.block]?) : w'.cell? a = w.cell? a := by
 unfold World.cell?
 rw [h]
/-- A row of documents behind what leaves its block alone. -/
theorem Rd2.fr {w w' : World} {X O O' : Nat → Prop} {ad : Addr} {cap : Nat} {ds : List (Int × List UInt8)} (h : Rd2 w (.slice (some ad) ds.length cap) ds) (hF : Fr X O O' w w') (h1 : ¬ O ad.block) (h2 : ¬ X ad.block) : Rd2 w' (.slice (some ad) ds.length cap) ds := by
 obtain ⟨A, c, hv, hc⟩ := h
 obtain ⟨rfl, -, rfl⟩ := Value.slice.inj hv
 refine ⟨_, _, rfl, fun hn => ?_⟩
 obtain ⟨ad', ha, hlt, hc⟩ := hc hn
 obtain rfl := Option.some.inj ha
 have hb := hF.block _ hlt h1 h2
 refine ⟨ad, rfl, Nat.lt_of_lt_of_le hlt hF.size, fun i d hd => ?_⟩
 obtain ⟨c0, c1, c2⟩ := hc i d hd
 have hb' : w'.heap[(ad.add (i * 2)).block]? = w.heap[(ad.add (i * 2)).block]? := by rw [block_of_add]; exact hb
 exact ⟨Nat.lt_of_lt_of_le c0 hF.size, (cell_same hb').trans c1, (cell_same (by exact hb')).trans c2⟩
def rowsM (ds : List (Int × List UInt8)) : List (Int × Int × Int) := (refSorted (ds.map (·.2))).map fun r => ((ds.getD r.1 (0, [])).1, (r.2 : Int), symOf (ds.map (·.2)) r)
def docsM (ds : List (Int × List UInt8)) : List (Int × Int) := ds.map fun d => (d.1, (d.2.length : Int))
theorem bRows_ok {rate : Int} : ∀ {l : List (Int × Int × Int)} {i : Int} {b b' : Bst}, bRows rate l i b = some b' → b'.ok = true → b.ok = true
 | [], i, b, b', h, ho => by cases h; exact ho
 | x :: l, i, b, b', h, ho => by
  unfold bRows at h
  cases hb : b.ok with
  | true => rfl
  | false => rw [hb, if_neg (by decide)] at h; cases h; rw [hb] at ho; cases ho
set_option maxRecDepth 100000 in
set_option maxHeartbeats 8000000 in
theorem build_calls (rate : Int) (hr1 : 1 ≤ rate) (hr2 : rate ≤ 1000) (ds : List (Int × List UInt8)) (ad : Addr) (cap : Nat) (hne : ds ≠ []) (hrt : refRight (ds.map (·.2)) = true) (w : World) (hD : Rd2 w (.slice (some ad) ds.length cap) ds) (hO : ¬ O ad.block) (hA : AP w ap s O)
  (B1 B2 : Bst) (h1 : bRows rate (rowsM ds) 0 ⟨s, true, Parts.zero, 0⟩ = some B1) (ho1 : B1.ok = true) (h2 : bTable (docsM ds) B1 = some B2) (ho2 : B2.ok = true) (root : Int) (s' : Ar) (h3 : bEnd B2 = some (root, true, s')) :
  Calls Try.prog 10 #[ap, .int .i64 rate, .slice (some ad) ds.length cap] w fun e w' => e = .returned (.tuple #[.int .i64 root, .bool true]) ∧ Did noX ap s' O w w' := by
 have hlen : 0 < ds.length := List.length_pos_iff.2 hne
 obtain ⟨hn10, h40⟩ := right_len hrt
 rw [List.length_map] at hn10
 have d0 : ((ds.length : Int) == 0) = false := by rw [beq_eq_false_iff_ne]; omega
 have HD := Lib.hid hD; have H1 := Lib.hid h1; have H2 := Lib.hid h2; have H3 := Lib.hid h3; have H40 := Lib.hid h40; have HO := Lib.hid hO
 clear hD h1 h2 h3 h40 hne
 obtain ⟨ts, hts⟩ : ∃ ts, ts = ds.map (·.2) := ⟨_, rfl⟩
 have htl : ts.length = ds.length := by rw [hts, List.length_map]
 rw [← hts] at hrt
 have H40' : Hid (∀ t, t ∈ ts → t.length ≤ 50000) := Lib.hid (fun t ht => by
  obtain ⟨i, hi, rfl⟩ := List.getElem_of_mem ht
  have := (right_len hrt).2 i
  rw [getD_at (List.getElem?_eq_getElem hi)] at this
  omega)
 have Hts := Lib.hid hts; clear hts
 obtain ⟨q, rfl⟩ := hA.ptr
 go_enter Try.func10, Try.ntmps10
 go_wp2_with fail
 refine calls_gen fun V0 hV_V0 => ?_
 have n_ka := congrArg (fun v : World => v.heap[w.heap.size]?) hV_V0
 simp (maxDischargeDepth := 9) only [BK, not_false_eq_true, reduceCtorEq] at n_ka
 have o_ka : ¬ O (w.heap.size) := by first | exact hA.new (Nat.le_refl _) | exact hA.new (by omega)
 have n_F : Fr (noX) O O w V0 := nF hV_V0
 have n_A : AP V0 (.pointer q) s O := nA hV_V0
 have z_V0 := Nat.le_of_eq (congrArg (fun v : World => v.heap.size) hV_V0).symm
 try simp only [SZ] at z_V0
 clear hV_V0
 clear hA
 have hA := n_A
 clear n_A
 skip
 have hF := n_F
 clear n_F
 have ka := n_ka; clear n_ka
 have c_ka := cells_of ka
 have f_ka := free_of ka
 have l_ka_V0 := lt_of ka
 have hAV0 := hA
 refine (texts_calls _ ds (by omega) _ (HD.out.fr hF HO.out (fun h => h))).mono ?_
 rintro e_W0 W0 ⟨v0, rfl, hown0, hb_W0⟩
 replace hA := hA.below hb_W0
 replace hF := hF.below hb_W0
 replace ka := keep_blk hb_W0 ka
 have c_ka := cells_of ka
 have f_ka := free_of ka
 have l_ka_W0 := lt_of ka
 have z_W0 := hb_W0.size
 clear hb_W0
 have hge0 : ∀ g, v0.ownBlock = some g → V0.heap.size ≤ g := fun g hg => (hown0.lt g hg).1
 obtain ⟨hl0, A0, c0, rfl, hx0⟩ := Rk.of_own hown0
 obtain ⟨g0, cs0, T0, rfl, kx, hcs0⟩ := hx0 (by omega)
 have o_kx : ¬ O g0 := fun h => by have := hAV0.lt h; have := hge0 g0 rfl; omega
 have HX0 : Hid (∀ V : World, V.heap[g0]? = some (.cells cs0 T0 (0, 0)) → Rk V 1 (.slice (some ⟨g0, 0, none⟩) ds.length c0) ts.length (ts.map strOf)) := Lib.hid (fun V hV => by
  rw [Hts.out, List.length_map]
  exact ⟨hl0, _, _, rfl, fun _ => ⟨g0, cs0, T0, rfl, hV, hcs0⟩⟩)
 clear hAV0 hown0 hge0 hl0 hx0 hcs0
 have c_kx := cells_of kx
 have f_kx := free_of kx
 have l_kx_W0 := lt_of kx
 go_wp2_with fail
 refine calls_gen fun V1 hV_V1 => ?_
 have n_ka := congrArg (fun v : World => v.heap[w.heap.size]?) hV_V1
 simp (maxDischargeDepth := 9) only [BK, not_false_eq_true, reduceCtorEq, ka, kx, l_ka_V0, l_ka_W0, l_kx_W0] at n_ka
 have n_kx := congrArg (fun v : World => v.heap[g0]?) hV_V1
 simp (maxDischargeDepth := 9) only [BK, not_false_eq_true, reduceCtorEq, ka, kx, l_ka_V0, l_ka_W0, l_kx_W0] at n_kx
 have n_F : Fr (noX) O O w V1 := nF hV_V1
 have n_A : AP V1 (.pointer q) s O := nA hV_V1
 have z_V1 := Nat.le_of_eq (congrArg (fun v : World => v.heap.size) hV_V1).symm
 try simp only [SZ] at z_V1
 clear ka c_ka f_ka
 clear kx c_kx f_kx
 clear hV_V1
 clear hA
 have hA := n_A
 clear n_A
 clear hF
 have hF := n_F
 clear n_F
 have ka := n_ka; clear n_ka
 have c_ka := cells_of ka
 have f_ka := free_of ka
 have l_ka_V1 := lt_of ka
 have kx := n_kx; clear n_kx
 have c_kx := cells_of kx
 have f_kx := free_of kx
 have l_kx_V1 := lt_of kx
 have hAV1 := hA
 refine (sorted_calls _ ts (by omega) _ (HX0.out _ kx)).mono ?_
 rintro e_W1 W1 ⟨v1, rfl, hown1, hb_W1⟩
 replace hA := hA.below hb_W1
 replace hF := hF.below hb_W1
 replace ka := keep_blk hb_W1 ka
 have c_ka := cells_of ka
 have f_ka := free_of ka
 have l_ka_W1 := lt_of ka
 replace kx := keep_blk hb_W1 kx
 have c_kx := cells_of kx
 have f_kx := free_of kx
 have l_kx_W1 := lt_of kx
 have z_W1 := hb_W1.size
 clear hb_W1
 have hge1 : ∀ g, v1.ownBlock = some g → V1.heap.size ≤ g := fun g hg => (hown1.lt g hg).1
 have hRpos : 0 < (refSorted ts).length := by
  unfold refSorted; rw [if_pos hrt, refFold_length]
  obtain ⟨n, hn⟩ : ∃ n, ts.length = n + 1 := ⟨ts.length - 1, by omega⟩
  rw [hn, ← upto_next, upto_snoc]; simp
 obtain ⟨hl1, A1, c1, rfl, hx1⟩ := Rk.of_own hown1
 obtain ⟨g1, cs1, T1, rfl, kr, hcs1⟩ := hx1 hRpos
 have o_kr : ¬ O g1 := fun h => by have := hAV1.lt h; have := hge1 g1 rfl; omega
 have hrows : Hid (∀ (i : Nat) (r : Nat × Nat), (refSorted ts)[i]? = some r → cs1[i * 2]? = some (Value.int .i64 (r.1 : Int)) ∧ cs1[i * 2 + 1]? = some (Value.int .i64 (r.2 : Int))) := Lib.hid (fun (i : Nat) (r : Nat × Nat) hr => by
  have hi := (List.getElem?_eq_some_iff.1 hr).1
  exact ⟨(hcs1 _ (by omega)).trans (rowCells_at hr).1, (hcs1 _ (by omega)).trans (rowCells_at hr).2⟩)
 clear hAV1 hown1 hge1 hl1 hx1 hcs1
 have c_kr := cells_of kr
 have f_kr := free_of kr
 have l_kr_W1 := lt_of kr
 go_wp2_with fail
 refine calls_gen fun V2 hV_V2 => ?_
 have n_ka := congrArg (fun v : World => v.heap[w.heap.size]?) hV_V2
 simp (maxDischargeDepth := 9) only [BK, not_false_eq_true, reduceCtorEq, ka, kx, kr, l_ka_V0, l_ka_W0, l_kx_W0, l_ka_V1, l_kx_V1, l_ka_W1, l_kx_W1, l_kr_W1] at n_ka
 have n_kx := congrArg (fun v : World => v.heap[g0]?) hV_V2
 simp (maxDischargeDepth := 9) only [BK, not_false_eq_true, reduceCtorEq, ka, kx, kr, l_ka_V0, l_ka_W0, l_kx_W0, l_ka_V1, l_kx_V1, l_ka_W1, l_kx_W1, l_kr_W1] at n_kx
 have n_kr := congrArg (fun v : World => v.heap[g1]?) hV_V2
 simp (maxDischargeDepth := 9) only [BK, not_false_eq_true, reduceCtorEq, ka, kx, kr, l_ka_V0, l_ka_W0, l_kx_W0, l_ka_V1, l_kx_V1, l_ka_W1, l_kx_W1, l_kr_W1] at n_kr
 have n_F : Fr (noX) O O w V2 := nF hV_V2
 have n_A : AP V2 (.pointer q) s O := nA hV_V2
 have z_V2 := Nat.le_of_eq (congrArg (fun v : World => v.heap.size) hV_V2).symm
 try simp only [SZ] at z_V2
 clear ka c_ka f_ka
 clear kx c_kx f_kx
 clear kr c_kr f_kr
 clear hV_V2
 clear hA
 have hA := n_A
 clear n_A
 clear hF
 have hF := n_F
 clear n_F
 have ka := n_ka; clear n_ka
 have c_ka := cells_of ka
 have f_ka := free_of ka
 have l_ka_V2 := lt_of ka
 have kx := n_kx; clear n_kx
 have c_kx := cells_of kx
 have f_kx := free_of kx
 have l_kx_V2 := lt_of kx
 have kr := n_kr; clear n_kr
 have c_kr := cells_of kr
 have f_kr := free_of kr
 have l_kr_V2 := lt_of kr
 have hAV2 := hA
 refine (symbols_calls _ ts (by omega) H40'.out _ (HX0.out _ kx)).mono ?_
 rintro e_W2 W2 ⟨v2, rfl, hown2, hb_W2⟩
 replace hA := hA.below hb_W2
 replace hF := hF.below hb_W2
 replace ka := keep_blk hb_W2 ka
 have c_ka := cells_of ka
 have f_ka := free_of ka
 have l_ka_W2 := lt_of ka
 replace kx := keep_blk hb_W2 kx
 have c_kx := cells_of kx
 have f_kx := free_of kx
 have l_kx_W2 := lt_of kx
 replace kr := keep_blk hb_W2 kr
 have c_kr := cells_of kr
 have f_kr := free_of kr
 have l_kr_W2 := lt_of kr
 have z_W2 := hb_W2.size
 clear hb_W2
 have hge2 : ∀ g, v2.ownBlock = some g → V2.heap.size ≤ g := fun g hg => (hown2.lt g hg).1
 obtain ⟨hl2, A2, c2, rfl, hx2⟩ := Rk.of_own hown2
 obtain ⟨g2, cs2, T2, rfl, ks, hcs2⟩ := hx2 hRpos
 have o_ks : ¬ O g2 := fun h => by have := hAV2.lt h; have := hge2 g2 rfl; omega
 have hsyms : Hid (∀ (i : Nat) (r : Nat × Nat), (refSorted ts)[i]? = some r → cs2[i]? = some (Value.int .i64 (symOf ts r))) := Lib.hid (fun (i : Nat) (r : Nat × Nat) hr => by
  have hi := (List.getElem?_eq_some_iff.1 hr).1
  refine (hcs2 _ (by omega)).trans ?_
  unfold intCells; rw [List.getElem?_map, List.getElem?_map, hr]; rfl)
 clear hAV2 hown2 hge2 hl2 hx2 hcs2
 have c_ks := cells_of ks
 have f_ks := free_of ks
 have l_ks_W2 := lt_of ks
 have hl2 := lt_of ks
 have hl1 := lt_of kr
 go_wp2_with fail
 refine wp_gen fun V3 hV_V3 => ?_
 have n_ka := congrArg (fun v : World => v.heap[w.heap.size]?) hV_V3
 simp (maxDischargeDepth := 9) only [BK, not_false_eq_true, reduceCtorEq, ka, kx, kr, ks, l_ka_V0, l_ka_W0, l_kx_W0, l_ka_V1, l_kx_V1, l_ka_W1, l_kx_W1, l_kr_W1, l_ka_V2, l_kx_V2, l_kr_V2, l_ka_W2, l_kx_W2, l_kr_W2, l_ks_W2] at n_ka
 have n_kr := congrArg (fun v : World => v.heap[g1]?) hV_V3
 simp (maxDischargeDepth := 9) only [BK, not_false_eq_true, reduceCtorEq, ka, kx, kr, ks, l_ka_V0, l_ka_W0, l_kx_W0, l_ka_V1, l_kx_V1, l_ka_W1, l_kx_W1, l_kr_W1, l_ka_V2, l_kx_V2, l_kr_V2, l_ka_W2, l_kx_W2, l_kr_W2, l_ks_W2] at n_kr
 have n_ks := congrArg (fun v : World => v.heap[g2]?) hV_V3
 simp (maxDischargeDepth := 9) only [BK, not_false_eq_true, reduceCtorEq, ka, kx, kr, ks, l_ka_V0, l_ka_W0, l_kx_W0, l_ka_V1, l_kx_V1, l_ka_W1, l_kx_W1, l_kr_W1, l_ka_V2, l_kx_V2, l_kr_V2, l_ka_W2, l_kx_W2, l_kr_W2, l_ks_W2] at n_ks
 have n_kp := congrArg (fun v : World => v.heap[W2.heap.size]?) hV_V3
 simp (maxDischargeDepth := 9) only [BK, not_false_eq_true, reduceCtorEq, ka, kx, kr, ks, l_ka_V0, l_ka_W0, l_kx_W0, l_ka_V1, l_kx_V1, l_ka_W1, l_kx_W1, l_kr_W1, l_ka_V2, l_kx_V2, l_kr_V2, l_ka_W2, l_kx_W2, l_kr_W2, l_ks_W2] at n_kp
 have n_kt := congrArg (fun v : World => v.heap[W2.heap.size + 1]?) hV_V3
 simp (maxDischargeDepth := 9) only [BK, not_false_eq_true, reduceCtorEq, ka, kx, kr, ks, l_ka_V0, l_ka_W0, l_kx_W0, l_ka_V1, l_kx_V1, l_ka_W1, l_kx_W1, l_kr_W1, l_ka_V2, l_kx_V2, l_kr_V2, l_ka_W2, l_kx_W2, l_kr_W2, l_ks_W2] at n_kt
 have o_kp : ¬ O (W2.heap.size) := by first | exact hA.new (Nat.le_refl _) | exact hA.new (by omega)
 have o_kt : ¬ O (W2.heap.size + 1) := by first | exact hA.new (Nat.le_refl _) | exact hA.new (by omega)
 have n_F : Fr (noX) O O w V3 := nF hV_V3
 have n_A : AP V3 (.pointer q) s O := nA hV_V3
 have z_V3 := Nat.le_of_eq (congrArg (fun v : World => v.heap.size) hV_V3).symm
 try simp only [SZ] at z_V3
 clear ka c_ka f_ka
 clear kx c_kx f_kx
 clear kr c_kr f_kr
 clear ks c_ks f_ks
 clear hV_V3
 clear hA
 have hA := n_A
 clear n_A
 clear hF
 have hF := n_F
 clear n_F
 have ka := n_ka; clear n_ka
 have c_ka := cells_of ka
 have f_ka := free_of ka
 have l_ka_V3 := lt_of ka
 have kr := n_kr; clear n_kr
 have c_kr := cells_of kr
 have f_kr := free_of kr
 have l_kr_V3 := lt_of kr
 have ks := n_ks; clear n_ks
 have c_ks := cells_of ks
 have f_ks := free_of ks
 have l_ks_V3 := lt_of ks
 have kp := n_kp; clear n_kp
 have c_kp := cells_of kp
 have f_kp := free_of kp
 have l_kp_V3 := lt_of kp
 have kt := n_kt; clear n_kt
 have c_kt := cells_of kt
 have f_kt := free_of kt
 have l_kt_V3 := lt_of kt
 obtain ⟨R, hR⟩ : ∃ R, R = refSorted ts := ⟨_, rfl⟩
 rw [← hR] at hrows hsyms hRpos
 have hsm : R.length ≤ 500 := by rw [hR]; exact sorted_small ts
 have hlt1 : ∀ (i : Nat) (r : Nat × Nat), R[i]? = some r → ∃ d, ds[r.1]? = some d ∧ (rowsM ds)[i]? = some (d.1, (r.2 : Int), symOf ts r) := by
  intro i r hr
  obtain ⟨t, ht, -⟩ := sorted_valid (hR ▸ List.mem_of_getElem? hr)
  have h1 := (List.getElem?_eq_some_iff.1 ht).1
  obtain ⟨d, hd⟩ := at_some (show r.1 < ds.length by omega)
  refine ⟨d, hd, ?_⟩
  unfold rowsM
  rw [← Hts.out, ← hR, List.getElem?_map, hr]
  simp [List.getD, hd]
 have hLlen : (rowsM ds).length = R.length := by unfold rowsM; rw [← Hts.out, ← hR, List.length_map]
 have Hlt1 := Lib.hid hlt1; have HR := Lib.hid hR
 simp only [← hR]
 clear hlt1 hR
 have hneq : g1 ≠ W2.heap.size ∧ g1 ≠ W2.heap.size + 1 ∧ g2 ≠ W2.heap.size ∧ g2 ≠ W2.heap.size + 1 ∧ w.heap.size ≠ W2.heap.size ∧ w.heap.size ≠ W2.heap.size + 1 ∧ w.heap.size < W2.heap.size := by
  have := lt_of ka
  omega
 obtain ⟨ne1, ne2, ne3, ne4, ne5, ne6, hww⟩ := hneq
 have hY : ∀ x, twoX W2.heap.size (W2.heap.size + 1) x → w.heap.size ≤ x := by
  intro x hx
  rcases hx with rfl | rfl <;> omega
 have hdoc : Hid (Rd2 V3 (.slice (some ad) ds.length cap) ds) := Lib.hid (HD.out.fr hF HO.out (fun h => h))
 have HF3 := Lib.hid hF
 go_loopg [14, 40] R.length (fun k p1 p2 wr => ∃ (i : Nat) (st : Bst) (O' : Nat → Prop), p1 = .int .i64 st.n ∧ p2 = .int .i64 (i : Int) ∧ i + k = R.length ∧ AP wr (.pointer q) st.s O' ∧ Hid (Fr noX O O' w wr)
  ∧ wr.heap[W2.heap.size]? = some (.cells #[.int .i64 st.p.wave, .int .i64 st.p.marks, .int .i64 st.p.spots, .int .i64 st.p.table] 67 (0, 0)) ∧ wr.heap[W2.heap.size + 1]? = some (.cells #[.bool st.ok] 4 (0, 0)) ∧ wr.heap[w.heap.size]? = some (.cells #[.pointer q] 25 (0, 0))
  ∧ wr.heap[g1]? = some (.cells cs1 T1 (0, 0)) ∧ wr.heap[g2]? = some (.cells cs2 T2 (0, 0)) ∧ ¬ O' (W2.heap.size) ∧ ¬ O' (W2.heap.size + 1) ∧ ¬ O' w.heap.size ∧ ¬ O' g1 ∧ ¬ O' g2 ∧ ¬ O' ad.block ∧ Hid (Rd2 wr (.slice (some ad) ds.length cap) ds) ∧ Hid (bRows rate ((rowsM ds).drop i) i st = some B1))
 case atStart => exact ⟨0, _, O, rfl, rfl, by omega, hA, HF3, kp, kt, ka, kr, ks, o_kp, o_kt, o_ka, o_kr, o_ks, HO.out, hdoc, H1⟩
 case round =>
  clear ka kr ks kp kt c_ka c_kr c_ks c_kp c_kt f_ka f_kr f_ks f_kp f_kt hA hF hdoc HF3 o_kp o_kt o_ka o_kr o_ks
  obtain ⟨i, st, O1, rfl, rfl, hk, hA, HF, kp, kt, ka, kr, ks, o_kp, o_kt, o_ka, o_kr, o_ks, oD, hdoc, Hb⟩ := hrel
  have hok := bRows_ok Hb.out ho1
  by_cases hlt : i < R.length
  ·
   obtain ⟨k, rfl⟩ : ∃ k, gk = k + 1 := ⟨gk - 1, by omega⟩
   obtain ⟨r, hr⟩ := at_some hlt
   obtain ⟨d, hd, hx⟩ := Hlt1.out i r hr
   have hb := Hb.out
   rw [drop_at hx] at hb
   unfold bRows at hb
   rw [hok, if_pos rfl] at hb
   obtain ⟨st2, hst2, hb2⟩ := Option.bind_eq_some_iff.1 hb
   unfold bStep at hst2
   obtain ⟨r1, hr1', hst2⟩ := Option.bind_eq_some_iff.1 hst2
   dsimp only at hr1' hst2
   obtain ⟨r2, hr2', hst2⟩ := Option.bind_eq_some_iff.1 hst2
   obtain ⟨t1, ht1⟩ : ∃ t, nextA st.ok st.p.wave r1 = t := ⟨_, rfl⟩
   rw [ht1] at hr2' hst2
   obtain ⟨t2, ht2⟩ : ∃ t, nextA t1.2.1 st.p.marks r2 = t := ⟨_, rfl⟩
   rw [ht2] at hst2
   have Hr1 := Lib.hid hr1'; have Hr2 := Lib.hid hr2'; have Hst2 := Lib.hid hst2; have Hb2 := Lib.hid hb2; have Ht1 := Lib.hid ht1; have Ht2 := Lib.hid ht2
   obtain ⟨rc1, rc2⟩ := hrows.out i r hr
   have rc3 := hsyms.out i r hr
   have n1 : decide ((i : Int) < (R.length : Int)) = true := by simpa using hlt
   have n2 : (i : Int) < (R.length : Int) := by omega
   have E3 := Lib.hid (step_wrap i 500 (by omega) (by omega))
   have hd1 := (List.getElem?_eq_some_iff.1 hd).1
   have n3 : (r.1 : Int) < (ds.length : Int) := by omega
   have Hd := Lib.hid hd; have Hlt := Lib.hid hlt
   clear hb hr1' hr2' hst2 hb2 ht1 ht2 hr hx hd hlt Hb hd1
   have hF := Fr.refl ((twoX W2.heap.size (W2.heap.size + 1))) O1 wr
   have c_ka := cells_of ka
   have f_ka := free_of ka
   have l_ka_wr := lt_of ka
   have c_kr := cells_of kr
   have f_kr := free_of kr
   have l_kr_wr := lt_of kr
   have c_ks := cells_of ks
   have f_ks := free_of ks
   have l_ks_wr := lt_of ks
   have c_kp := cells_of kp
   have f_kp := free_of kp
   have l_kp_wr := lt_of kp
   have c_kt := cells_of kt
   have f_kt := free_of kt
   have l_kt_wr := lt_of kt
   go_wp2_with fail
   refine wp_gen fun V4 hV_V4 => ?_
   have n_ka := congrArg (fun v : World => v.heap[w.heap.size]?) hV_V4
   simp (maxDischargeDepth := 9) only [BK, not_false_eq_true, reduceCtorEq, ka, kr, ks, kp, kt, l_ka_wr, l_kr_wr, l_ks_wr, l_kp_wr, l_kt_wr, ne1, ne2, ne3, ne4, ne5, ne6] at n_ka
   have n_kr := congrArg (fun v : World => v.heap[g1]?) hV_V4
   simp (maxDischargeDepth := 9) only [BK, not_false_eq_true, reduceCtorEq, ka, kr, ks, kp, kt, l_ka_wr, l_kr_wr, l_ks_wr, l_kp_wr, l_kt_wr, ne1, ne2, ne3, ne4, ne5, ne6] at n_kr
   have n_ks := congrArg (fun v : World => v.heap[g2]?) hV_V4
   simp (maxDischargeDepth := 9) only [BK, not_false_eq_true, reduceCtorEq, ka, kr, ks, kp, kt, l_ka_wr, l_kr_wr, l_ks_wr, l_kp_wr, l_kt_wr, ne1, ne2, ne3, ne4, ne5, ne6] at n_ks
   have n_kp := congrArg (fun v : World => v.heap[W2.heap.size]?) hV_V4
   simp (maxDischargeDepth := 9) only [BK, not_false_eq_true, reduceCtorEq, ka, kr, ks, kp, kt, l_ka_wr, l_kr_wr, l_ks_wr, l_kp_wr, l_kt_wr, ne1, ne2, ne3, ne4, ne5, ne6] at n_kp
   have n_kt := congrArg (fun v : World => v.heap[W2.heap.size + 1]?) hV_V4
   simp (maxDischargeDepth := 9) only [BK, not_false_eq_true, reduceCtorEq, ka, kr, ks, kp, kt, l_ka_wr, l_kr_wr, l_ks_wr, l_kp_wr, l_kt_wr, ne1, ne2, ne3, ne4, ne5, ne6] at n_kt
   have n_F : Fr ((twoX W2.heap.size (W2.heap.size + 1))) O1 O1 wr V4 := nF hV_V4
   have n_A : AP V4 (.pointer q) st.s O1 := nA hV_V4
   have z_V4 := Nat.le_of_eq (congrArg (fun v : World => v.heap.size) hV_V4).symm
   try simp only [SZ] at z_V4
   clear ka c_ka f_ka
   clear kr c_kr f_kr
   clear ks c_ks f_ks
   clear kp c_kp f_kp
   clear kt c_kt f_kt
   clear hV_V4
   clear hA
   have hA := n_A
   clear n_A
   clear hF
   have hF := n_F
   clear n_F
   have ka := n_ka; clear n_ka
   have c_ka := cells_of ka
   have f_ka := free_of ka
   have l_ka_V4 := lt_of ka
   have kr := n_kr; clear n_kr
   have c_kr := cells_of kr
   have f_kr := free_of kr
   have l_kr_V4 := lt_of kr
   have ks := n_ks; clear n_ks
   have c_ks := cells_of ks
   have f_ks := free_of ks
   have l_ks_V4 := lt_of ks
   have kp := n_kp; clear n_kp
   have c_kp := cells_of kp
   have f_kp := free_of kp
   have l_kp_V4 := lt_of kp
   have kt := n_kt; clear n_kt
   have c_kt := cells_of kt
   have f_kt := free_of kt
   have l_kt_V4 := lt_of kt
   refine wp_region_noPanic ?_
   refine wp_region_held_drew (S := fun v => (∀ o, v.cell? ⟨w.heap.size, o, none⟩ = V4.cell? ⟨w.heap.size, o, none⟩) ∧ (∀ o, v.cell? ⟨g1, o, none⟩ = V4.cell? ⟨g1, o, none⟩) ∧ (∀ o, v.cell? ⟨g2, o, none⟩ = V4.cell? ⟨g2, o, none⟩) ∧ (∀ o, v.cell? ⟨W2.heap.size, o, none⟩ = V4.cell? ⟨W2.heap.size, o, none⟩) ∧ (∀ o, v.cell? ⟨W2.heap.size + 1, o, none⟩ = V4.cell? ⟨W2.heap.size + 1, o, none⟩) ∧ (V4.heap.size ≤ v.heap.size) ∧ True) (by kernel_rfl) ⟨(fun _ => rfl), (fun _ => rfl), (fun _ => rfl), (fun _ => rfl), (fun _ => rfl), (Nat.le_refl _), trivial⟩ (fun hHeld => ?_)
   generalize hV_V4d : V4.drew = V4d at hHeld ⊢
   have n_ka : V4d.heap[w.heap.size]? = V4.heap[w.heap.size]? := by rw [← hV_V4d]; rfl
   have d_ka := n_ka.trans ka
   clear n_ka c_ka f_ka
   have n_kr : V4d.heap[g1]? = V4.heap[g1]? := by rw [← hV_V4d]; rfl
   have d_kr := n_kr.trans kr
   clear n_kr c_kr f_kr
   have n_ks : V4d.heap[g2]? = V4.heap[g2]? := by rw [← hV_V4d]; rfl
   have d_ks := n_ks.trans ks
   clear n_ks c_ks f_ks
   have n_kp : V4d.heap[W2.heap.size]? = V4.heap[W2.heap.size]? := by rw [← hV_V4d]; rfl
   have d_kp := n_kp.trans kp
   clear n_kp c_kp f_kp
   have n_kt : V4d.heap[W2.heap.size + 1]? = V4.heap[W2.heap.size + 1]? := by rw [← hV_V4d]; rfl
   have d_kt := n_kt.trans kt
   clear n_kt c_kt f_kt
   have n_A : AP V4d (.pointer q) st.s O1 := by rw [← hV_V4d]; exact hA.drew
   clear hA; have hA := n_A; clear n_A
   have n_F : Fr ((twoX W2.heap.size (W2.heap.size + 1))) O1 O1 wr V4d := by rw [← hV_V4d]; exact hF.drew
   clear hF; have hF := n_F; clear n_F
   have z_V4d : V4.heap.size ≤ V4d.heap.size := by rw [← hV_V4d]; exact Nat.le_refl _
   have v_ka := cells_of ka
   have v_kr := cells_of kr
   have v_ks := cells_of ks
   have v_kp := cells_of kp
   have v_kt := cells_of kt
   clear ka; have ka := d_ka; clear d_ka
   clear kr; have kr := d_kr; clear d_kr
   clear ks; have ks := d_ks; clear d_ks
   clear kp; have kp := d_kp; clear d_kp
   clear kt; have kt := d_kt; clear d_kt
   have c_ka := cells_of ka
   have f_ka := free_of ka
   have l_ka_V4d := lt_of ka
   have c_kr := cells_of kr
   have f_kr := free_of kr
   have l_kr_V4d := lt_of kr
   have c_ks := cells_of ks
   have f_ks := free_of ks
   have l_ks_V4d := lt_of ks
   have c_kp := cells_of kp
   have f_kp := free_of kp
   have l_kp_V4d := lt_of kp
   have c_kt := cells_of kt
   have f_kt := free_of kt
   have l_kt_V4d := lt_of kt
   clear hV_V4d
   refine ty (i := 0) (v := ?_) rfl hHeld ?_ ?_
   rotate_left
   focus (intro w hSw; go_simp; (try simp only [IntWalk.i64_left]); try (with_reducible rfl))
   try simp only [PT]
   refine ty (i := 1) (v := ?_) rfl hHeld ?_ ?_
   rotate_left
   focus (intro w hSw; go_simp; (try simp only [IntWalk.i64_left]); try (with_reducible rfl))
   try simp only [PT]
   refine ty (i := 2) (v := ?_) rfl hHeld ?_ ?_
   rotate_left
   focus (intro w hSw; go_simp; (try simp only [IntWalk.i64_left]); try (with_reducible rfl))
   try simp only [PT]
   refine ty (i := 3) (v := ?_) rfl hHeld ?_ ?_
   rotate_left
   focus (intro w hSw; go_simp; (try simp only [IntWalk.i64_left]); try (with_reducible rfl))
   try simp only [PT]
   refine ty (i := 4) (v := ?_) rfl hHeld ?_ ?_
   rotate_left
   focus (intro w hSw; go_simp; (try simp only [IntWalk.i64_left]); try (with_reducible rfl))
   try simp only [PT]
   refine ty (i := 5) (v := ?_) rfl hHeld ?_ ?_
   rotate_left
   focus (intro w hSw; go_simp; (try simp only [IntWalk.i64_left]); try (with_reducible rfl))
   try simp only [PT]
   refine ty (i := 6) (v := ?_) rfl hHeld ?_ ?_
   rotate_left
   focus (intro w hSw; go_simp; (try simp only [IntWalk.i64_left]); try (with_reducible rfl))
   try simp only [PT]
   refine ty (i := 7) (v := ?_) rfl hHeld ?_ ?_
   rotate_left
   focus (intro w hSw; go_simp; (try simp only [IntWalk.i64_left]); try (with_reducible rfl))
   try simp only [PT]
   refine wpAnyH_ready (rs := [8]) (by kernel_rfl) (by simp) ?_
   refine ready_at rfl (fun K hK => ?_) AllReadyH.nil
   go_simp
   try simp only [IntWalk.i64_left]
   refine (wInsert_calls st.s O1 _ _ _ r1 Hr1.out _ hA).mono ?_
   rintro e_W5 W5 ⟨rfl, O2, hA_W5, hf_W5⟩
   have q_ka := hf_W5.keep ka o_ka (fun h => h)
   have q_kr := hf_W5.keep kr o_kr (fun h => h)
   have q_ks := hf_W5.keep ks o_ks (fun h => h)
   have q_kp := hf_W5.keep kp o_kp (fun h => h)
   have q_kt := hf_W5.keep kt o_kt (fun h => h)
   replace o_ka := hf_W5.not_own (lt_of ka) o_ka
   clear ka; have ka := q_ka; clear q_ka
   have c_ka := cells_of ka
   have f_ka := free_of ka
   have l_ka_W5 := lt_of ka
   replace o_kr := hf_W5.not_own (lt_of kr) o_kr
   clear kr; have kr := q_kr; clear q_kr
   have c_kr := cells_of kr
   have f_kr := free_of kr
   have l_kr_W5 := lt_of kr
   replace o_ks := hf_W5.not_own (lt_of ks) o_ks
   clear ks; have ks := q_ks; clear q_ks
   have c_ks := cells_of ks
   have f_ks := free_of ks
   have l_ks_W5 := lt_of ks
   replace o_kp := hf_W5.not_own (lt_of kp) o_kp
   clear kp; have kp := q_kp; clear q_kp
   have c_kp := cells_of kp
   have f_kp := free_of kp
   have l_kp_W5 := lt_of kp
   replace o_kt := hf_W5.not_own (lt_of kt) o_kt
   clear kt; have kt := q_kt; clear q_kt
   have c_kt := cells_of kt
   have f_kt := free_of kt
   have l_kt_W5 := lt_of kt
   replace hF := hF.trans hf_W5.widen
   have z_W5 := hf_W5.size
   clear hA hf_W5; have hA := hA_W5; clear hA_W5
   refine hK.out _ _ ⟨(fun o => (c_ka o).trans (v_ka o).symm), (fun o => (c_kr o).trans (v_kr o).symm), (fun o => (c_ks o).trans (v_ks o).symm), (fun o => (c_kp o).trans (v_kp o).symm), (fun o => (c_kt o).trans (v_kt o).symm), (by omega), trivial⟩ (fun hHeld => ?_)
   clear hK K
   try simp only [PT]
   refine ty (i := 9) (v := ?_) rfl hHeld ?_ ?_
   rotate_left
   focus (intro w hSw; go_simp; (try simp only [IntWalk.i64_left]); try (with_reducible rfl))
   try simp only [PT]
   refine ty (i := 10) (v := ?_) rfl hHeld ?_ ?_
   rotate_left
   focus (intro w hSw; go_simp; (try simp only [IntWalk.i64_left]); try (with_reducible rfl))
   try simp only [PT]
   refine ty (i := 11) (v := ?_) rfl hHeld ?_ ?_
   rotate_left
   focus (intro w hSw; go_simp; (try simp only [IntWalk.i64_left]); try (with_reducible rfl))
   try simp only [PT]
   refine wpAnyH_ready (rs := [12]) (by kernel_rfl) (by simp) ?_
   refine ready_at rfl (fun K hK => ?_) AllReadyH.nil
   go_simp
   refine hK.out _ _ hHeld (fun hHeld => ?_)
   clear hK K
   try simp only [PT]
   refine wpAnyH_ready (rs := [13]) (by kernel_rfl) (by simp) ?_
   refine ready_at rfl (fun K hK => ?_) AllReadyH.nil
   go_simp
   refine hK.out _ _ hHeld (fun hHeld => ?_)
   clear hK K
   try simp only [PT]
   refine wpAnyH_done (by kernel_rfl) ?_ _
   refine NoPanic.normal ?_
   go_wp2_with fail
   refine calls_gen fun V5 hV_V5 => ?_
   have n_ka := congrArg (fun v : World => v.heap[w.heap.size]?) hV_V5
   simp (maxDischargeDepth := 9) only [BK, not_false_eq_true, reduceCtorEq, ka, kr, ks, kp, kt, l_ka_wr, l_kr_wr, l_ks_wr, l_kp_wr, l_kt_wr, ne1, ne2, ne3, ne4, ne5, ne6, l_ka_V4, l_kr_V4, l_ks_V4, l_kp_V4, l_kt_V4, l_ka_V4d, l_kr_V4d, l_ks_V4d, l_kp_V4d, l_kt_V4d, l_ka_W5, l_kr_W5, l_ks_W5, l_kp_W5, l_kt_W5] at n_ka
   have n_kr := congrArg (fun v : World => v.heap[g1]?) hV_V5
   simp (maxDischargeDepth := 9) only [BK, not_false_eq_true, reduceCtorEq, ka, kr, ks, kp, kt, l_ka_wr, l_kr_wr, l_ks_wr, l_kp_wr, l_kt_wr, ne1, ne2, ne3, ne4, ne5, ne6, l_ka_V4, l_kr_V4, l_ks_V4, l_kp_V4, l_kt_V4, l_ka_V4d, l_kr_V4d, l_ks_V4d, l_kp_V4d, l_kt_V4d, l_ka_W5, l_kr_W5, l_ks_W5, l_kp_W5, l_kt_W5] at n_kr
   have n_ks := congrArg (fun v : World => v.heap[g2]?) hV_V5
   simp (maxDischargeDepth := 9) only [BK, not_false_eq_true, reduceCtorEq, ka, kr, ks, kp, kt, l_ka_wr, l_kr_wr, l_ks_wr, l_kp_wr, l_kt_wr, ne1, ne2, ne3, ne4, ne5, ne6, l_ka_V4, l_kr_V4, l_ks_V4, l_kp_V4, l_kt_V4, l_ka_V4d, l_kr_V4d, l_ks_V4d, l_kp_V4d, l_kt_V4d, l_ka_W5, l_kr_W5, l_ks_W5, l_kp_W5, l_kt_W5] at n_ks
   have n_kp := congrArg (fun v : World => v.heap[W2.heap.size]?) hV_V5
   simp (maxDischargeDepth := 9) only [BK, not_false_eq_true, reduceCtorEq, ka, kr, ks, kp, kt, l_ka_wr, l_kr_wr, l_ks_wr, l_kp_wr, l_kt_wr, ne1, ne2, ne3, ne4, ne5, ne6, l_ka_V4, l_kr_V4, l_ks_V4, l_kp_V4, l_kt_V4, l_ka_V4d, l_kr_V4d, l_ks_V4d, l_kp_V4d, l_kt_V4d, l_ka_W5, l_kr_W5, l_ks_W5, l_kp_W5, l_kt_W5] at n_kp
   have n_kt := congrArg (fun v : World => v.heap[W2.heap.size + 1]?) hV_V5
   simp (maxDischargeDepth := 9) only [BK, not_false_eq_true, reduceCtorEq, ka, kr, ks, kp, kt, l_ka_wr, l_kr_wr, l_ks_wr, l_kp_wr, l_kt_wr, ne1, ne2, ne3, ne4, ne5, ne6, l_ka_V4, l_kr_V4, l_ks_V4, l_kp_V4, l_kt_V4, l_ka_V4d, l_kr_V4d, l_ks_V4d, l_kp_V4d, l_kt_V4d, l_ka_W5, l_kr_W5, l_ks_W5, l_kp_W5, l_kt_W5] at n_kt
   have n_F : Fr ((twoX W2.heap.size (W2.heap.size + 1))) O1 O2 wr V5 := nF hV_V5
   have n_A : AP V5 (.pointer q) r1.2.2 O2 := nA hV_V5
   have z_V5 := Nat.le_of_eq (congrArg (fun v : World => v.heap.size) hV_V5).symm
   try simp only [SZ] at z_V5
   clear ka c_ka f_ka
   clear kr c_kr f_kr
   clear ks c_ks f_ks
   clear kp c_kp f_kp
   clear kt c_kt f_kt
   clear hV_V5
   clear hA
   have hA := n_A
   clear n_A
   clear hF
   have hF := n_F
   clear n_F
   have ka := n_ka; clear n_ka
   have c_ka := cells_of ka
   have f_ka := free_of ka
   have l_ka_V5 := lt_of ka
   have kr := n_kr; clear n_kr
   have c_kr := cells_of kr
   have f_kr := free_of kr
   have l_kr_V5 := lt_of kr
   have ks := n_ks; clear n_ks
   have c_ks := cells_of ks
   have f_ks := free_of ks
   have l_ks_V5 := lt_of ks
   have kp := n_kp; clear n_kp
   have c_kp := cells_of kp
   have f_kp := free_of kp
   have l_kp_V5 := lt_of kp
   have kt := n_kt; clear n_kt
   have c_kt := cells_of kt
   have f_kt := free_of kt
   have l_kt_V5 := lt_of kt
   refine (next_t (W2.heap.size + 1) w.heap.size st.ok st.p.wave r1 t1 Ht1.out _ hA kt ka o_kt o_ka ne6).mono ?_
   rintro e_W6 W6 ⟨rfl, O3, hT_W6, hf_W6⟩
   have q_ka := hf_W6.keep ka o_ka (by unfold oneX; omega)
   have q_kr := hf_W6.keep kr o_kr (by unfold oneX; omega)
   have q_ks := hf_W6.keep ks o_ks (by unfold oneX; omega)
   have q_kp := hf_W6.keep kp o_kp (by unfold oneX; omega)
   replace o_ka := hf_W6.not_own (lt_of ka) o_ka
   clear ka; have ka := q_ka; clear q_ka
   have c_ka := cells_of ka
   have f_ka := free_of ka
   have l_ka_W6 := lt_of ka
   replace o_kr := hf_W6.not_own (lt_of kr) o_kr
   clear kr; have kr := q_kr; clear q_kr
   have c_kr := cells_of kr
   have f_kr := free_of kr
   have l_kr_W6 := lt_of kr
   replace o_ks := hf_W6.not_own (lt_of ks) o_ks
   clear ks; have ks := q_ks; clear q_ks
   have c_ks := cells_of ks
   have f_ks := free_of ks
   have l_ks_W6 := lt_of ks
   replace o_kp := hf_W6.not_own (lt_of kp) o_kp
   clear kp; have kp := q_kp; clear q_kp
   have c_kp := cells_of kp
   have f_kp := free_of kp
   have l_kp_W6 := lt_of kp
   clear kt c_kt f_kt o_kt; have kt := hT_W6.blk; have o_kt := hT_W6.no
   have c_kt := cells_of kt
   have f_kt := free_of kt
   have l_kt_W6 := lt_of kt
   replace hF := hF.trans (hf_W6.mono (fun x h => Or.inr h))
   have z_W6 := hf_W6.size
   clear hA hf_W6; have hA := hT_W6.hA; clear hT_W6
   go_wp2_with fail
   refine calls_gen fun V6 hV_V6 => ?_
   have n_ka := congrArg (fun v : World => v.heap[w.heap.size]?) hV_V6
   simp (maxDischargeDepth := 9) only [BK, not_false_eq_true, reduceCtorEq, ka, kr, ks, kp, kt, l_ka_wr, l_kr_wr, l_ks_wr, l_kp_wr, l_kt_wr, ne1, ne2, ne3, ne4, ne5, ne6, l_ka_V4, l_kr_V4, l_ks_V4, l_kp_V4, l_kt_V4, l_ka_V4d, l_kr_V4d, l_ks_V4d, l_kp_V4d, l_kt_V4d, l_ka_W5, l_kr_W5, l_ks_W5, l_kp_W5, l_kt_W5, l_ka_V5, l_kr_V5, l_ks_V5, l_kp_V5, l_kt_V5, l_ka_W6, l_kr_W6, l_ks_W6, l_kp_W6, l_kt_W6] at n_ka
   have n_kr := congrArg (fun v : World => v.heap[g1]?) hV_V6
   simp (maxDischargeDepth := 9) only [BK, not_false_eq_true, reduceCtorEq, ka, kr, ks, kp, kt, l_ka_wr, l_kr_wr, l_ks_wr, l_kp_wr, l_kt_wr, ne1, ne2, ne3, ne4, ne5, ne6, l_ka_V4, l_kr_V4, l_ks_V4, l_kp_V4, l_kt_V4, l_ka_V4d, l_kr_V4d, l_ks_V4d, l_kp_V4d, l_kt_V4d, l_ka_W5, l_kr_W5, l_ks_W5, l_kp_W5, l_kt_W5, l_ka_V5, l_kr_V5, l_ks_V5, l_kp_V5, l_kt_V5, l_ka_W6, l_kr_W6, l_ks_W6, l_kp_W6, l_kt_W6] at n_kr
   have n_ks := congrArg (fun v : World => v.heap[g2]?) hV_V6
   simp (maxDischargeDepth := 9) only [BK, not_false_eq_true, reduceCtorEq, ka, kr, ks, kp, kt, l_ka_wr, l_kr_wr, l_ks_wr, l_kp_wr, l_kt_wr, ne1, ne2, ne3, ne4, ne5, ne6, l_ka_V4, l_kr_V4, l_ks_V4, l_kp_V4, l_kt_V4, l_ka_V4d, l_kr_V4d, l_ks_V4d, l_kp_V4d, l_kt_V4d, l_ka_W5, l_kr_W5, l_ks_W5, l_kp_W5, l_kt_W5, l_ka_V5, l_kr_V5, l_ks_V5, l_kp_V5, l_kt_V5, l_ka_W6, l_kr_W6, l_ks_W6, l_kp_W6, l_kt_W6] at n_ks
   have n_kp := congrArg (fun v : World => v.heap[W2.heap.size]?) hV_V6
   simp (maxDischargeDepth := 9) only [BK, not_false_eq_true, reduceCtorEq, ka, kr, ks, kp, kt, l_ka_wr, l_kr_wr, l_ks_wr, l_kp_wr, l_kt_wr, ne1, ne2, ne3, ne4, ne5, ne6, l_ka_V4, l_kr_V4, l_ks_V4, l_kp_V4, l_kt_V4, l_ka_V4d, l_kr_V4d, l_ks_V4d, l_kp_V4d, l_kt_V4d, l_ka_W5, l_kr_W5, l_ks_W5, l_kp_W5, l_kt_W5, l_ka_V5, l_kr_V5, l_ks_V5, l_kp_V5, l_kt_V5, l_ka_W6, l_kr_W6, l_ks_W6, l_kp_W6, l_kt_W6] at n_kp
   have n_kt := congrArg (fun v : World => v.heap[W2.heap.size + 1]?) hV_V6
   simp (maxDischargeDepth := 9) only [BK, not_false_eq_true, reduceCtorEq, ka, kr, ks, kp, kt, l_ka_wr, l_kr_wr, l_ks_wr, l_kp_wr, l_kt_wr, ne1, ne2, ne3, ne4, ne5, ne6, l_ka_V4, l_kr_V4, l_ks_V4, l_kp_V4, l_kt_V4, l_ka_V4d, l_kr_V4d, l_ks_V4d, l_kp_V4d, l_kt_V4d, l_ka_W5, l_kr_W5, l_ks_W5, l_kp_W5, l_kt_W5, l_ka_V5, l_kr_V5, l_ks_V5, l_kp_V5, l_kt_V5, l_ka_W6, l_kr_W6, l_ks_W6, l_kp_W6, l_kt_W6] at n_kt
   have n_F : Fr ((twoX W2.heap.size (W2.heap.size + 1))) O1 O3 wr V6 := nF hV_V6
   have n_A : AP V6 (.pointer q) ((⟨t1.2.2, 0⟩ : Tb)).s O3 := nA hV_V6
   have z_V6 := Nat.le_of_eq (congrArg (fun v : World => v.heap.size) hV_V6).symm
   try simp only [SZ] at z_V6
   clear ka c_ka f_ka
   clear kr c_kr f_kr
   clear ks c_ks f_ks
   clear kp c_kp f_kp
   clear kt c_kt f_kt
   clear hV_V6
   clear hA
   have hA := n_A
   clear n_A
   clear hF
   have hF := n_F
   clear n_F
   have ka := n_ka; clear n_ka
   have c_ka := cells_of ka
   have f_ka := free_of ka
   have l_ka_V6 := lt_of ka
   have kr := n_kr; clear n_kr
   have c_kr := cells_of kr
   have f_kr := free_of kr
   have l_kr_V6 := lt_of kr
   have ks := n_ks; clear n_ks
   have c_ks := cells_of ks
   have f_ks := free_of ks
   have l_ks_V6 := lt_of ks
   have kp := n_kp; clear n_kp
   have c_kp := cells_of kp
   have f_kp := free_of kp
   have l_kp_V6 := lt_of kp
   have kt := n_kt; clear n_kt
   have c_kt := cells_of kt
   have f_kt := free_of kt
   have l_kt_V6 := lt_of kt
   have hadlt : ad.block < w.heap.size := by
    obtain ⟨A, c, hv, hc⟩ := HD.out
    obtain ⟨rfl, -, rfl⟩ := Value.slice.inj hv
    obtain ⟨ad', ha, hlt, -⟩ := hc hlen
    obtain rfl := Option.some.inj ha
    exact hlt
   have hX : ¬ twoX W2.heap.size (W2.heap.size + 1) ad.block := by unfold twoX; omega
   by_cases hm : (r.2 : Int) % rate = 0
   ·
    have m1 : ((r.2 : Int) % rate == 0) = true := by rw [hm]; rfl
    have hst := Hst2.out
    rw [if_pos hm] at hst
    obtain ⟨r3, hr3', hst⟩ := Option.bind_eq_some_iff.1 hst
    obtain ⟨u, hu, hst⟩ := Option.map_eq_some_iff.1 hst
    obtain ⟨t3, ht3⟩ : ∃ t, nextA t2.2.1 st.p.spots r3 = t := ⟨_, rfl⟩
    rw [ht3] at hu hst
    have Hr3 := Lib.hid hr3'; have Hu := Lib.hid hu; have Hst := Lib.hid hst; have Ht3 := Lib.hid ht3; have Hm := Lib.hid hm
    have e2 : decide ((r.2 : Int) % rate = 0) = ((r.2 : Int) % rate == 0) := rfl
    have Hr2' : Hid (bInsert t1.2.2 st.p.marks (i : Int) ((r.2 : Int) % rate == 0) = some r2) := Lib.hid Hr2.out
    rw [m1] at Hr2' ⊢
    clear hst hr3' hu ht3 hm e2
    refine (bInsert_calls (s := t1.2.2) _ _ _ r2 Hr2'.out _ hA).mono ?_
    rintro e_W7 W7 ⟨rfl, O4, hA_W7, hf_W7⟩
    have q_ka := hf_W7.keep ka o_ka (fun h => h)
    have q_kr := hf_W7.keep kr o_kr (fun h => h)
    have q_ks := hf_W7.keep ks o_ks (fun h => h)
    have q_kp := hf_W7.keep kp o_kp (fun h => h)
    have q_kt := hf_W7.keep kt o_kt (fun h => h)
    replace o_ka := hf_W7.not_own (lt_of ka) o_ka
    clear ka; have ka := q_ka; clear q_ka
    have c_ka := cells_of ka
    have f_ka := free_of ka
    have l_ka_W7 := lt_of ka
    replace o_kr := hf_W7.not_own (lt_of kr) o_kr
    clear kr; have kr := q_kr; clear q_kr
    have c_kr := cells_of kr
    have f_kr := free_of kr
    have l_kr_W7 := lt_of kr
    replace o_ks := hf_W7.not_own (lt_of ks) o_ks
    clear ks; have ks := q_ks; clear q_ks
    have c_ks := cells_of ks
    have f_ks := free_of ks
    have l_ks_W7 := lt_of ks
    replace o_kp := hf_W7.not_own (lt_of kp) o_kp
    clear kp; have kp := q_kp; clear q_kp
    have c_kp := cells_of kp
    have f_kp := free_of kp
    have l_kp_W7 := lt_of kp
    replace o_kt := hf_W7.not_own (lt_of kt) o_kt
    clear kt; have kt := q_kt; clear q_kt
    have c_kt := cells_of kt
    have f_kt := free_of kt
    have l_kt_W7 := lt_of kt
    replace hF := hF.trans hf_W7.widen
    have z_W7 := hf_W7.size
    clear hA hf_W7; have hA := hA_W7; clear hA_W7
    go_wp2_with fail
    refine calls_gen fun V7 hV_V7 => ?_
    have n_ka := congrArg (fun v : World => v.heap[w.heap.size]?) hV_V7
    simp (maxDischargeDepth := 9) only [BK, not_false_eq_true, reduceCtorEq, ka, kr, ks, kp, kt, l_ka_wr, l_kr_wr, l_ks_wr, l_kp_wr, l_kt_wr, ne1, ne2, ne3, ne4, ne5, ne6, l_ka_V4, l_kr_V4, l_ks_V4, l_kp_V4, l_kt_V4, l_ka_V4d, l_kr_V4d, l_ks_V4d, l_kp_V4d, l_kt_V4d, l_ka_W5, l_kr_W5, l_ks_W5, l_kp_W5, l_kt_W5, l_ka_V5, l_kr_V5, l_ks_V5, l_kp_V5, l_kt_V5, l_ka_W6, l_kr_W6, l_ks_W6, l_kp_W6, l_kt_W6, l_ka_V6, l_kr_V6, l_ks_V6, l_kp_V6, l_kt_V6, l_ka_W7, l_kr_W7, l_ks_W7, l_kp_W7, l_kt_W7] at n_ka
    have n_kr := congrArg (fun v : World => v.heap[g1]?) hV_V7
    simp (maxDischargeDepth := 9) only [BK, not_false_eq_true, reduceCtorEq, ka, kr, ks, kp, kt, l_ka_wr, l_kr_wr, l_ks_wr, l_kp_wr, l_kt_wr, ne1, ne2, ne3, ne4, ne5, ne6, l_ka_V4, l_kr_V4, l_ks_V4, l_kp_V4, l_kt_V4, l_ka_V4d, l_kr_V4d, l_ks_V4d, l_kp_V4d, l_kt_V4d, l_ka_W5, l_kr_W5, l_ks_W5, l_kp_W5, l_kt_W5, l_ka_V5, l_kr_V5, l_ks_V5, l_kp_V5, l_kt_V5, l_ka_W6, l_kr_W6, l_ks_W6, l_kp_W6, l_kt_W6, l_ka_V6, l_kr_V6, l_ks_V6, l_kp_V6, l_kt_V6, l_ka_W7, l_kr_W7, l_ks_W7, l_kp_W7, l_kt_W7] at n_kr
    have n_ks := congrArg (fun v : World => v.heap[g2]?) hV_V7
    simp (maxDischargeDepth := 9) only [BK, not_false_eq_true, reduceCtorEq, ka, kr, ks, kp, kt, l_ka_wr, l_kr_wr, l_ks_wr, l_kp_wr, l_kt_wr, ne1, ne2, ne3, ne4, ne5, ne6, l_ka_V4, l_kr_V4, l_ks_V4, l_kp_V4, l_kt_V4, l_ka_V4d, l_kr_V4d, l_ks_V4d, l_kp_V4d, l_kt_V4d, l_ka_W5, l_kr_W5, l_ks_W5, l_kp_W5, l_kt_W5, l_ka_V5, l_kr_V5, l_ks_V5, l_kp_V5, l_kt_V5, l_ka_W6, l_kr_W6, l_ks_W6, l_kp_W6, l_kt_W6, l_ka_V6, l_kr_V6, l_ks_V6, l_kp_V6, l_kt_V6, l_ka_W7, l_kr_W7, l_ks_W7, l_kp_W7, l_kt_W7] at n_ks
    have n_kp := congrArg (fun v : World => v.heap[W2.heap.size]?) hV_V7
    simp (maxDischargeDepth := 9) only [BK, not_false_eq_true, reduceCtorEq, ka, kr, ks, kp, kt, l_ka_wr, l_kr_wr, l_ks_wr, l_kp_wr, l_kt_wr, ne1, ne2, ne3, ne4, ne5, ne6, l_ka_V4, l_kr_V4, l_ks_V4, l_kp_V4, l_kt_V4, l_ka_V4d, l_kr_V4d, l_ks_V4d, l_kp_V4d, l_kt_V4d, l_ka_W5, l_kr_W5, l_ks_W5, l_kp_W5, l_kt_W5, l_ka_V5, l_kr_V5, l_ks_V5, l_kp_V5, l_kt_V5, l_ka_W6, l_kr_W6, l_ks_W6, l_kp_W6, l_kt_W6, l_ka_V6, l_kr_V6, l_ks_V6, l_kp_V6, l_kt_V6, l_ka_W7, l_kr_W7, l_ks_W7, l_kp_W7, l_kt_W7] at n_kp
    have n_kt := congrArg (fun v : World => v.heap[W2.heap.size + 1]?) hV_V7
    simp (maxDischargeDepth := 9) only [BK, not_false_eq_true, reduceCtorEq, ka, kr, ks, kp, kt, l_ka_wr, l_kr_wr, l_ks_wr, l_kp_wr, l_kt_wr, ne1, ne2, ne3, ne4, ne5, ne6, l_ka_V4, l_kr_V4, l_ks_V4, l_kp_V4, l_kt_V4, l_ka_V4d, l_kr_V4d, l_ks_V4d, l_kp_V4d, l_kt_V4d, l_ka_W5, l_kr_W5, l_ks_W5, l_kp_W5, l_kt_W5, l_ka_V5, l_kr_V5, l_ks_V5, l_kp_V5, l_kt_V5, l_ka_W6, l_kr_W6, l_ks_W6, l_kp_W6, l_kt_W6, l_ka_V6, l_kr_V6, l_ks_V6, l_kp_V6, l_kt_V6, l_ka_W7, l_kr_W7, l_ks_W7, l_kp_W7, l_kt_W7] at n_kt
    have n_F : Fr ((twoX W2.heap.size (W2.heap.size + 1))) O1 O4 wr V7 := nF hV_V7
    have n_A : AP V7 (.pointer q) r2.2.2 O4 := nA hV_V7
    have z_V7 := Nat.le_of_eq (congrArg (fun v : World => v.heap.size) hV_V7).symm
    try simp only [SZ] at z_V7
    clear ka c_ka f_ka
    clear kr c_kr f_kr
    clear ks c_ks f_ks
    clear kp c_kp f_kp
    clear kt c_kt f_kt
    clear hV_V7
    clear hA
    have hA := n_A
    clear n_A
    clear hF
    have hF := n_F
    clear n_F
    have ka := n_ka; clear n_ka
    have c_ka := cells_of ka
    have f_ka := free_of ka
    have l_ka_V7 := lt_of ka
    have kr := n_kr; clear n_kr
    have c_kr := cells_of kr
    have f_kr := free_of kr
    have l_kr_V7 := lt_of kr
    have ks := n_ks; clear n_ks
    have c_ks := cells_of ks
    have f_ks := free_of ks
    have l_ks_V7 := lt_of ks
    have kp := n_kp; clear n_kp
    have c_kp := cells_of kp
    have f_kp := free_of kp
    have l_kp_V7 := lt_of kp
    have kt := n_kt; clear n_kt
    have c_kt := cells_of kt
    have f_kt := free_of kt
    have l_kt_V7 := lt_of kt
    refine (next_t (W2.heap.size + 1) w.heap.size t1.2.1 st.p.marks r2 t2 Ht2.out _ hA kt ka o_kt o_ka ne6).mono ?_
    rintro e_W8 W8 ⟨rfl, O5, hT_W8, hf_W8⟩
    have q_ka := hf_W8.keep ka o_ka (by unfold oneX; omega)
    have q_kr := hf_W8.keep kr o_kr (by unfold oneX; omega)
    have q_ks := hf_W8.keep ks o_ks (by unfold oneX; omega)
    have q_kp := hf_W8.keep kp o_kp (by unfold oneX; omega)
    replace o_ka := hf_W8.not_own (lt_of ka) o_ka
    clear ka; have ka := q_ka; clear q_ka
    have c_ka := cells_of ka
    have f_ka := free_of ka
    have l_ka_W8 := lt_of ka
    replace o_kr := hf_W8.not_own (lt_of kr) o_kr
    clear kr; have kr := q_kr; clear q_kr
    have c_kr := cells_of kr
    have f_kr := free_of kr
    have l_kr_W8 := lt_of kr
    replace o_ks := hf_W8.not_own (lt_of ks) o_ks
    clear ks; have ks := q_ks; clear q_ks
    have c_ks := cells_of ks
    have f_ks := free_of ks
    have l_ks_W8 := lt_of ks
    replace o_kp := hf_W8.not_own (lt_of kp) o_kp
    clear kp; have kp := q_kp; clear q_kp
    have c_kp := cells_of kp
    have f_kp := free_of kp
    have l_kp_W8 := lt_of kp
    clear kt c_kt f_kt o_kt; have kt := hT_W8.blk; have o_kt := hT_W8.no
    have c_kt := cells_of kt
    have f_kt := free_of kt
    have l_kt_W8 := lt_of kt
    replace hF := hF.trans (hf_W8.mono (fun x h => Or.inr h))
    have z_W8 := hf_W8.size
    clear hA hf_W8; have hA := hT_W8.hA; clear hT_W8
    go_wp2_with fail
    refine wp_gen fun V8 hV_V8 => ?_
    have n_ka := congrArg (fun v : World => v.heap[w.heap.size]?) hV_V8
    simp (maxDischargeDepth := 9) only [BK, not_false_eq_true, reduceCtorEq, ka, kr, ks, kp, kt, l_ka_wr, l_kr_wr, l_ks_wr, l_kp_wr, l_kt_wr, ne1, ne2, ne3, ne4, ne5, ne6, l_ka_V4, l_kr_V4, l_ks_V4, l_kp_V4, l_kt_V4, l_ka_V4d, l_kr_V4d, l_ks_V4d, l_kp_V4d, l_kt_V4d, l_ka_W5, l_kr_W5, l_ks_W5, l_kp_W5, l_kt_W5, l_ka_V5, l_kr_V5, l_ks_V5, l_kp_V5, l_kt_V5, l_ka_W6, l_kr_W6, l_ks_W6, l_kp_W6, l_kt_W6, l_ka_V6, l_kr_V6, l_ks_V6, l_kp_V6, l_kt_V6, l_ka_W7, l_kr_W7, l_ks_W7, l_kp_W7, l_kt_W7, l_ka_V7, l_kr_V7, l_ks_V7, l_kp_V7, l_kt_V7, l_ka_W8, l_kr_W8, l_ks_W8, l_kp_W8, l_kt_W8] at n_ka
    have n_kr := congrArg (fun v : World => v.heap[g1]?) hV_V8
    simp (maxDischargeDepth := 9) only [BK, not_false_eq_true, reduceCtorEq, ka, kr, ks, kp, kt, l_ka_wr, l_kr_wr, l_ks_wr, l_kp_wr, l_kt_wr, ne1, ne2, ne3, ne4, ne5, ne6, l_ka_V4, l_kr_V4, l_ks_V4, l_kp_V4, l_kt_V4, l_ka_V4d, l_kr_V4d, l_ks_V4d, l_kp_V4d, l_kt_V4d, l_ka_W5, l_kr_W5, l_ks_W5, l_kp_W5, l_kt_W5, l_ka_V5, l_kr_V5, l_ks_V5, l_kp_V5, l_kt_V5, l_ka_W6, l_kr_W6, l_ks_W6, l_kp_W6, l_kt_W6, l_ka_V6, l_kr_V6, l_ks_V6, l_kp_V6, l_kt_V6, l_ka_W7, l_kr_W7, l_ks_W7, l_kp_W7, l_kt_W7, l_ka_V7, l_kr_V7, l_ks_V7, l_kp_V7, l_kt_V7, l_ka_W8, l_kr_W8, l_ks_W8, l_kp_W8, l_kt_W8] at n_kr
    have n_ks := congrArg (fun v : World => v.heap[g2]?) hV_V8
    simp (maxDischargeDepth := 9) only [BK, not_false_eq_true, reduceCtorEq, ka, kr, ks, kp, kt, l_ka_wr, l_kr_wr, l_ks_wr, l_kp_wr, l_kt_wr, ne1, ne2, ne3, ne4, ne5, ne6, l_ka_V4, l_kr_V4, l_ks_V4, l_kp_V4, l_kt_V4, l_ka_V4d, l_kr_V4d, l_ks_V4d, l_kp_V4d, l_kt_V4d, l_ka_W5, l_kr_W5, l_ks_W5, l_kp_W5, l_kt_W5, l_ka_V5, l_kr_V5, l_ks_V5, l_kp_V5, l_kt_V5, l_ka_W6, l_kr_W6, l_ks_W6, l_kp_W6, l_kt_W6, l_ka_V6, l_kr_V6, l_ks_V6, l_kp_V6, l_kt_V6, l_ka_W7, l_kr_W7, l_ks_W7, l_kp_W7, l_kt_W7, l_ka_V7, l_kr_V7, l_ks_V7, l_kp_V7, l_kt_V7, l_ka_W8, l_kr_W8, l_ks_W8, l_kp_W8, l_kt_W8] at n_ks
    have n_kp := congrArg (fun v : World => v.heap[W2.heap.size]?) hV_V8
    simp (maxDischargeDepth := 9) only [BK, not_false_eq_true, reduceCtorEq, ka, kr, ks, kp, kt, l_ka_wr, l_kr_wr, l_ks_wr, l_kp_wr, l_kt_wr, ne1, ne2, ne3, ne4, ne5, ne6, l_ka_V4, l_kr_V4, l_ks_V4, l_kp_V4, l_kt_V4, l_ka_V4d, l_kr_V4d, l_ks_V4d, l_kp_V4d, l_kt_V4d, l_ka_W5, l_kr_W5, l_ks_W5, l_kp_W5, l_kt_W5, l_ka_V5, l_kr_V5, l_ks_V5, l_kp_V5, l_kt_V5, l_ka_W6, l_kr_W6, l_ks_W6, l_kp_W6, l_kt_W6, l_ka_V6, l_kr_V6, l_ks_V6, l_kp_V6, l_kt_V6, l_ka_W7, l_kr_W7, l_ks_W7, l_kp_W7, l_kt_W7, l_ka_V7, l_kr_V7, l_ks_V7, l_kp_V7, l_kt_V7, l_ka_W8, l_kr_W8, l_ks_W8, l_kp_W8, l_kt_W8] at n_kp
    have n_kt := congrArg (fun v : World => v.heap[W2.heap.size + 1]?) hV_V8
    simp (maxDischargeDepth := 9) only [BK, not_false_eq_true, reduceCtorEq, ka, kr, ks, kp, kt, l_ka_wr, l_kr_wr, l_ks_wr, l_kp_wr, l_kt_wr, ne1, ne2, ne3, ne4, ne5, ne6, l_ka_V4, l_kr_V4, l_ks_V4, l_kp_V4, l_kt_V4, l_ka_V4d, l_kr_V4d, l_ks_V4d, l_kp_V4d, l_kt_V4d, l_ka_W5, l_kr_W5, l_ks_W5, l_kp_W5, l_kt_W5, l_ka_V5, l_kr_V5, l_ks_V5, l_kp_V5, l_kt_V5, l_ka_W6, l_kr_W6, l_ks_W6, l_kp_W6, l_kt_W6, l_ka_V6, l_kr_V6, l_ks_V6, l_kp_V6, l_kt_V6, l_ka_W7, l_kr_W7, l_ks_W7, l_kp_W7, l_kt_W7, l_ka_V7, l_kr_V7, l_ks_V7, l_kp_V7, l_kt_V7, l_ka_W8, l_kr_W8, l_ks_W8, l_kp_W8, l_kt_W8] at n_kt
    have n_F : Fr ((twoX W2.heap.size (W2.heap.size + 1))) O1 O5 wr V8 := nF hV_V8
    have n_A : AP V8 (.pointer q) ((⟨t2.2.2, 0⟩ : Tb)).s O5 := nA hV_V8
    have z_V8 := Nat.le_of_eq (congrArg (fun v : World => v.heap.size) hV_V8).symm
    try simp only [SZ] at z_V8
    clear ka c_ka f_ka
    clear kr c_kr f_kr
    clear ks c_ks f_ks
    clear kp c_kp f_kp
    clear kt c_kt f_kt
    clear hV_V8
    clear hA
    have hA := n_A
    clear n_A
    clear hF
    have hF := n_F
    clear n_F
    have ka := n_ka; clear n_ka
    have c_ka := cells_of ka
    have f_ka := free_of ka
    have l_ka_V8 := lt_of ka
    have kr := n_kr; clear n_kr
    have c_kr := cells_of kr
    have f_kr := free_of kr
    have l_kr_V8 := lt_of kr
    have ks := n_ks; clear n_ks
    have c_ks := cells_of ks
    have f_ks := free_of ks
    have l_ks_V8 := lt_of ks
    have kp := n_kp; clear n_kp
    have c_kp := cells_of kp
    have f_kp := free_of kp
    have l_kp_V8 := lt_of kp
    have kt := n_kt; clear n_kt
    have c_kt := cells_of kt
    have f_kt := free_of kt
    have l_kt_V8 := lt_of kt
    obtain ⟨c_d_lt, c_d, -⟩ : (ad.add (r.1 * 2)).block < V8.heap.size ∧ V8.cell? (ad.add (r.1 * 2)) = some (.int .i64 d.1) ∧ True := by
     obtain ⟨A, c, hv, hc⟩ := hdoc.out.fr hF oD hX
     obtain ⟨rfl, -, rfl⟩ := Value.slice.inj hv
     obtain ⟨ad', ha, hlt, hc⟩ := hc hlen
     obtain rfl := Option.some.inj ha
     obtain ⟨q1, q2, -⟩ := hc r.1 d Hd.out
     exact ⟨q1, q2, trivial⟩
    have c_d_no : ¬ O5 (ad.add (r.1 * 2)).block := by
     rw [block_of_add]
     exact hF.not_own (by have := hF.size; omega) oD
    refine wp_region_noPanic ?_
    refine wp_region_held_drew (S := fun v => (v.cell? (ad.add (r.1 * 2)) = some (.int .i64 d.1)) ∧ (∀ o, v.cell? ⟨w.heap.size, o, none⟩ = V8.cell? ⟨w.heap.size, o, none⟩) ∧ (∀ o, v.cell? ⟨g1, o, none⟩ = V8.cell? ⟨g1, o, none⟩) ∧ (∀ o, v.cell? ⟨g2, o, none⟩ = V8.cell? ⟨g2, o, none⟩) ∧ (∀ o, v.cell? ⟨W2.heap.size, o, none⟩ = V8.cell? ⟨W2.heap.size, o, none⟩) ∧ (∀ o, v.cell? ⟨W2.heap.size + 1, o, none⟩ = V8.cell? ⟨W2.heap.size + 1, o, none⟩) ∧ (V8.heap.size ≤ v.heap.size) ∧ True) (by kernel_rfl) ⟨c_d, (fun _ => rfl), (fun _ => rfl), (fun _ => rfl), (fun _ => rfl), (fun _ => rfl), (Nat.le_refl _), trivial⟩ (fun hHeld => ?_)
    generalize hV_V8d : V8.drew = V8d at hHeld ⊢
    have n_ka : V8d.heap[w.heap.size]? = V8.heap[w.heap.size]? := by rw [← hV_V8d]; rfl
    have d_ka := n_ka.trans ka
    clear n_ka c_ka f_ka
    have n_kr : V8d.heap[g1]? = V8.heap[g1]? := by rw [← hV_V8d]; rfl
    have d_kr := n_kr.trans kr
    clear n_kr c_kr f_kr
    have n_ks : V8d.heap[g2]? = V8.heap[g2]? := by rw [← hV_V8d]; rfl
    have d_ks := n_ks.trans ks
    clear n_ks c_ks f_ks
    have n_kp : V8d.heap[W2.heap.size]? = V8.heap[W2.heap.size]? := by rw [← hV_V8d]; rfl
    have d_kp := n_kp.trans kp
    clear n_kp c_kp f_kp
    have n_kt : V8d.heap[W2.heap.size + 1]? = V8.heap[W2.heap.size + 1]? := by rw [← hV_V8d]; rfl
    have d_kt := n_kt.trans kt
    clear n_kt c_kt f_kt
    replace c_d : V8d.cell? (ad.add (r.1 * 2)) = some (.int .i64 d.1) := by rw [← hV_V8d]; exact c_d
    replace c_d_lt : ((ad.add (r.1 * 2))).block < V8d.heap.size := by rw [← hV_V8d]; exact c_d_lt
    have n_A : AP V8d (.pointer q) ((⟨t2.2.2, 0⟩ : Tb)).s O5 := by rw [← hV_V8d]; exact hA.drew
    clear hA; have hA := n_A; clear n_A
    have n_F : Fr ((twoX W2.heap.size (W2.heap.size + 1))) O1 O5 wr V8d := by rw [← hV_V8d]; exact hF.drew
    clear hF; have hF := n_F; clear n_F
    have z_V8d : V8.heap.size ≤ V8d.heap.size := by rw [← hV_V8d]; exact Nat.le_refl _
    have v_ka := cells_of ka
    have v_kr := cells_of kr
    have v_ks := cells_of ks
    have v_kp := cells_of kp
    have v_kt := cells_of kt
    clear ka; have ka := d_ka; clear d_ka
    clear kr; have kr := d_kr; clear d_kr
    clear ks; have ks := d_ks; clear d_ks
    clear kp; have kp := d_kp; clear d_kp
    clear kt; have kt := d_kt; clear d_kt
    have c_ka := cells_of ka
    have f_ka := free_of ka
    have l_ka_V8d := lt_of ka
    have c_kr := cells_of kr
    have f_kr := free_of kr
    have l_kr_V8d := lt_of kr
    have c_ks := cells_of ks
    have f_ks := free_of ks
    have l_ks_V8d := lt_of ks
    have c_kp := cells_of kp
    have f_kp := free_of kp
    have l_kp_V8d := lt_of kp
    have c_kt := cells_of kt
    have f_kt := free_of kt
    have l_kt_V8d := lt_of kt
    clear hV_V8d
    refine ty (i := 0) (v := ?_) rfl hHeld ?_ ?_
    rotate_left
    focus (intro w hSw; go_simp; (try simp only [IntWalk.i64_left]); try (with_reducible rfl))
    try simp only [PT]
    refine ty (i := 1) (v := ?_) rfl hHeld ?_ ?_
    rotate_left
    focus (intro w hSw; go_simp; (try simp only [IntWalk.i64_left]); try (with_reducible rfl))
    try simp only [PT]
    refine ty (i := 2) (v := ?_) rfl hHeld ?_ ?_
    rotate_left
    focus (intro w hSw; go_simp; (try simp only [IntWalk.i64_left]); try (with_reducible rfl))
    try simp only [PT]
    refine ty (i := 3) (v := ?_) rfl hHeld ?_ ?_
    rotate_left
    focus (intro w hSw; go_simp; (try simp only [IntWalk.i64_left]); try (with_reducible rfl))
    try simp only [PT]
    refine ty (i := 4) (v := ?_) rfl hHeld ?_ ?_
    rotate_left
    focus (intro w hSw; go_simp; (try simp only [IntWalk.i64_left]); try (with_reducible rfl))
    try simp only [PT]
    refine ty (i := 5) (v := ?_) rfl hHeld ?_ ?_
    rotate_left
    focus (intro w hSw; go_simp; (try simp only [IntWalk.i64_left]); try (with_reducible rfl))
    try simp only [PT]
    refine ty (i := 6) (v := ?_) rfl hHeld ?_ ?_
    rotate_left
    focus (intro w hSw; go_simp; (try simp only [IntWalk.i64_left]); try (with_reducible rfl))
    try simp only [PT]
    refine ty (i := 7) (v := ?_) rfl hHeld ?_ ?_
    rotate_left
    focus (intro w hSw; go_simp; (try simp only [IntWalk.i64_left]); try (with_reducible rfl))
    try simp only [PT]
    refine ty (i := 8) (v := ?_) rfl hHeld ?_ ?_
    rotate_left
    focus (intro w hSw; go_simp; (try simp only [IntWalk.i64_left]); try (with_reducible rfl))
    try simp only [PT]
    refine ty (i := 9) (v := ?_) rfl hHeld ?_ ?_
    rotate_left
    focus (intro w hSw; go_simp; (try simp only [IntWalk.i64_left]); try (with_reducible rfl))
    try simp only [PT]
    refine ty (i := 10) (v := ?_) rfl hHeld ?_ ?_
    rotate_left
    focus (intro w hSw; go_simp; (try simp only [IntWalk.i64_left]); try (with_reducible rfl))
    try simp only [PT]
    refine ty (i := 11) (v := ?_) rfl hHeld ?_ ?_
    rotate_left
    focus (intro w hSw; go_simp; (try simp only [IntWalk.i64_left]); try (with_reducible rfl))
    try simp only [PT]
    refine ty (i := 12) (v := ?_) rfl hHeld ?_ ?_
    rotate_left
    focus (intro w hSw; go_simp; (try simp only [IntWalk.i64_left]); try (with_reducible rfl))
    try simp only [PT]
    refine ty (i := 13) (v := ?_) rfl hHeld ?_ ?_
    rotate_left
    focus (intro w hSw; go_simp; (try simp only [IntWalk.i64_left]); try (with_reducible rfl))
    try simp only [PT]
    refine ty (i := 14) (v := ?_) rfl hHeld ?_ ?_
    rotate_left
    focus (intro w hSw; go_simp; (try simp only [IntWalk.i64_left]); try (with_reducible rfl))
    try simp only [PT]
    refine ty (i := 15) (v := ?_) rfl hHeld ?_ ?_
    rotate_left
    focus (intro w hSw; go_simp; (try simp only [IntWalk.i64_left]); try (with_reducible rfl))
    try simp only [PT]
    refine ty (i := 16) (v := ?_) rfl hHeld ?_ ?_
    rotate_left
    focus (intro w hSw; go_simp; (try simp only [IntWalk.i64_left]); try (with_reducible rfl))
    try simp only [PT]
    refine ty (i := 17) (v := ?_) rfl hHeld ?_ ?_
    rotate_left
    focus (intro w hSw; go_simp; (try simp only [IntWalk.i64_left]); try (with_reducible rfl))
    try simp only [PT]
    refine ty (i := 18) (v := ?_) rfl hHeld ?_ ?_
    rotate_left
    focus (intro w hSw; go_simp; (try simp only [IntWalk.i64_left]); try (with_reducible rfl))
    try simp only [PT]
    refine wpAnyH_ready (rs := [19]) (by kernel_rfl) (by simp) ?_
    refine ready_at rfl (fun K hK => ?_) AllReadyH.nil
    go_simp
    try simp only [IntWalk.i64_left]
    refine (lInsert_calls (s := t2.2.2) _ _ (d.1, (r.2 : Int)) r3 Hr3.out _ hA).mono ?_
    rintro e_W9 W9 ⟨rfl, O6, hA_W9, hf_W9⟩
    have q_ka := hf_W9.keep ka o_ka (fun h => h)
    have q_kr := hf_W9.keep kr o_kr (fun h => h)
    have q_ks := hf_W9.keep ks o_ks (fun h => h)
    have q_kp := hf_W9.keep kp o_kp (fun h => h)
    have q_kt := hf_W9.keep kt o_kt (fun h => h)
    replace o_ka := hf_W9.not_own (lt_of ka) o_ka
    clear ka; have ka := q_ka; clear q_ka
    have c_ka := cells_of ka
    have f_ka := free_of ka
    have l_ka_W9 := lt_of ka
    replace o_kr := hf_W9.not_own (lt_of kr) o_kr
    clear kr; have kr := q_kr; clear q_kr
    have c_kr := cells_of kr
    have f_kr := free_of kr
    have l_kr_W9 := lt_of kr
    replace o_ks := hf_W9.not_own (lt_of ks) o_ks
    clear ks; have ks := q_ks; clear q_ks
    have c_ks := cells_of ks
    have f_ks := free_of ks
    have l_ks_W9 := lt_of ks
    replace o_kp := hf_W9.not_own (lt_of kp) o_kp
    clear kp; have kp := q_kp; clear q_kp
    have c_kp := cells_of kp
    have f_kp := free_of kp
    have l_kp_W9 := lt_of kp
    replace o_kt := hf_W9.not_own (lt_of kt) o_kt
    clear kt; have kt := q_kt; clear q_kt
    have c_kt := cells_of kt
    have f_kt := free_of kt
    have l_kt_W9 := lt_of kt
    replace c_d := (cell_same (hf_W9.block _ c_d_lt c_d_no (fun h => h))).trans c_d
    clear c_d_lt c_d_no
    replace hF := hF.trans hf_W9.widen
    have z_W9 := hf_W9.size
    clear hA hf_W9; have hA := hA_W9; clear hA_W9
    refine hK.out _ _ ⟨c_d, (fun o => (c_ka o).trans (v_ka o).symm), (fun o => (c_kr o).trans (v_kr o).symm), (fun o => (c_ks o).trans (v_ks o).symm), (fun o => (c_kp o).trans (v_kp o).symm), (fun o => (c_kt o).trans (v_kt o).symm), (by omega), trivial⟩ (fun hHeld => ?_)
    clear hK K
    try simp only [PT]
    refine ty (i := 20) (v := ?_) rfl hHeld ?_ ?_
    rotate_left
    focus (intro w hSw; go_simp; (try simp only [IntWalk.i64_left]); try (with_reducible rfl))
    try simp only [PT]
    refine ty (i := 21) (v := ?_) rfl hHeld ?_ ?_
    rotate_left
    focus (intro w hSw; go_simp; (try simp only [IntWalk.i64_left]); try (with_reducible rfl))
    try simp only [PT]
    refine ty (i := 22) (v := ?_) rfl hHeld ?_ ?_
    rotate_left
    focus (intro w hSw; go_simp; (try simp only [IntWalk.i64_left]); try (with_reducible rfl))
    try simp only [PT]
    refine wpAnyH_ready (rs := [23]) (by kernel_rfl) (by simp) ?_
    refine ready_at rfl (fun K hK => ?_) AllReadyH.nil
    go_simp
    refine hK.out _ _ hHeld (fun hHeld => ?_)
    clear hK K
    try simp only [PT]
    refine wpAnyH_ready (rs := [24]) (by kernel_rfl) (by simp) ?_
    refine ready_at rfl (fun K hK => ?_) AllReadyH.nil
    go_simp
    refine hK.out _ _ hHeld (fun hHeld => ?_)
    clear hK K
    try simp only [PT]
    refine wpAnyH_done (by kernel_rfl) ?_ _
    refine NoPanic.normal ?_
    go_wp2_with fail
    refine calls_gen fun V9 hV_V9 => ?_
    have n_ka := congrArg (fun v : World => v.heap[w.heap.size]?) hV_V9
    simp (maxDischargeDepth := 9) only [BK, not_false_eq_true, reduceCtorEq, ka, kr, ks, kp, kt, l_ka_wr, l_kr_wr, l_ks_wr, l_kp_wr, l_kt_wr, ne1, ne2, ne3, ne4, ne5, ne6, l_ka_V4, l_kr_V4, l_ks_V4, l_kp_V4, l_kt_V4, l_ka_V4d, l_kr_V4d, l_ks_V4d, l_kp_V4d, l_kt_V4d, l_ka_W5, l_kr_W5, l_ks_W5, l_kp_W5, l_kt_W5, l_ka_V5, l_kr_V5, l_ks_V5, l_kp_V5, l_kt_V5, l_ka_W6, l_kr_W6, l_ks_W6, l_kp_W6, l_kt_W6, l_ka_V6, l_kr_V6, l_ks_V6, l_kp_V6, l_kt_V6, l_ka_W7, l_kr_W7, l_ks_W7, l_kp_W7, l_kt_W7, l_ka_V7, l_kr_V7, l_ks_V7, l_kp_V7, l_kt_V7, l_ka_W8, l_kr_W8, l_ks_W8, l_kp_W8, l_kt_W8, l_ka_V8, l_kr_V8, l_ks_V8, l_kp_V8, l_kt_V8, l_ka_V8d, l_kr_V8d, l_ks_V8d, l_kp_V8d, l_kt_V8d, l_ka_W9, l_kr_W9, l_ks_W9, l_kp_W9, l_kt_W9] at n_ka
    have n_kr := congrArg (fun v : World => v.heap[g1]?) hV_V9
    simp (maxDischargeDepth := 9) only [BK, not_false_eq_true, reduceCtorEq, ka, kr, ks, kp, kt, l_ka_wr, l_kr_wr, l_ks_wr, l_kp_wr, l_kt_wr, ne1, ne2, ne3, ne4, ne5, ne6, l_ka_V4, l_kr_V4, l_ks_V4, l_kp_V4, l_kt_V4, l_ka_V4d, l_kr_V4d, l_ks_V4d, l_kp_V4d, l_kt_V4d, l_ka_W5, l_kr_W5, l_ks_W5, l_kp_W5, l_kt_W5, l_ka_V5, l_kr_V5, l_ks_V5, l_kp_V5, l_kt_V5, l_ka_W6, l_kr_W6, l_ks_W6, l_kp_W6, l_kt_W6, l_ka_V6, l_kr_V6, l_ks_V6, l_kp_V6, l_kt_V6, l_ka_W7, l_kr_W7, l_ks_W7, l_kp_W7, l_kt_W7, l_ka_V7, l_kr_V7, l_ks_V7, l_kp_V7, l_kt_V7, l_ka_W8, l_kr_W8, l_ks_W8, l_kp_W8, l_kt_W8, l_ka_V8, l_kr_V8, l_ks_V8, l_kp_V8, l_kt_V8, l_ka_V8d, l_kr_V8d, l_ks_V8d, l_kp_V8d, l_kt_V8d, l_ka_W9, l_kr_W9, l_ks_W9, l_kp_W9, l_kt_W9] at n_kr
    have n_ks := congrArg (fun v : World => v.heap[g2]?) hV_V9
    simp (maxDischargeDepth := 9) only [BK, not_false_eq_true, reduceCtorEq, ka, kr, ks, kp, kt, l_ka_wr, l_kr_wr, l_ks_wr, l_kp_wr, l_kt_wr, ne1, ne2, ne3, ne4, ne5, ne6, l_ka_V4, l_kr_V4, l_ks_V4, l_kp_V4, l_kt_V4, l_ka_V4d, l_kr_V4d, l_ks_V4d, l_kp_V4d, l_kt_V4d, l_ka_W5, l_kr_W5, l_ks_W5, l_kp_W5, l_kt_W5, l_ka_V5, l_kr_V5, l_ks_V5, l_kp_V5, l_kt_V5, l_ka_W6, l_kr_W6, l_ks_W6, l_kp_W6, l_kt_W6, l_ka_V6, l_kr_V6, l_ks_V6, l_kp_V6, l_kt_V6, l_ka_W7, l_kr_W7, l_ks_W7, l_kp_W7, l_kt_W7, l_ka_V7, l_kr_V7, l_ks_V7, l_kp_V7, l_kt_V7, l_ka_W8, l_kr_W8, l_ks_W8, l_kp_W8, l_kt_W8, l_ka_V8, l_kr_V8, l_ks_V8, l_kp_V8, l_kt_V8, l_ka_V8d, l_kr_V8d, l_ks_V8d, l_kp_V8d, l_kt_V8d, l_ka_W9, l_kr_W9, l_ks_W9, l_kp_W9, l_kt_W9] at n_ks
    have n_kp := congrArg (fun v : World => v.heap[W2.heap.size]?) hV_V9
    simp (maxDischargeDepth := 9) only [BK, not_false_eq_true, reduceCtorEq, ka, kr, ks, kp, kt, l_ka_wr, l_kr_wr, l_ks_wr, l_kp_wr, l_kt_wr, ne1, ne2, ne3, ne4, ne5, ne6, l_ka_V4, l_kr_V4, l_ks_V4, l_kp_V4, l_kt_V4, l_ka_V4d, l_kr_V4d, l_ks_V4d, l_kp_V4d, l_kt_V4d, l_ka_W5, l_kr_W5, l_ks_W5, l_kp_W5, l_kt_W5, l_ka_V5, l_kr_V5, l_ks_V5, l_kp_V5, l_kt_V5, l_ka_W6, l_kr_W6, l_ks_W6, l_kp_W6, l_kt_W6, l_ka_V6, l_kr_V6, l_ks_V6, l_kp_V6, l_kt_V6, l_ka_W7, l_kr_W7, l_ks_W7, l_kp_W7, l_kt_W7, l_ka_V7, l_kr_V7, l_ks_V7, l_kp_V7, l_kt_V7, l_ka_W8, l_kr_W8, l_ks_W8, l_kp_W8, l_kt_W8, l_ka_V8, l_kr_V8, l_ks_V8, l_kp_V8, l_kt_V8, l_ka_V8d, l_kr_V8d, l_ks_V8d, l_kp_V8d, l_kt_V8d, l_ka_W9, l_kr_W9, l_ks_W9, l_kp_W9, l_kt_W9] at n_kp
    have n_kt := congrArg (fun v : World => v.heap[W2.heap.size + 1]?) hV_V9
    simp (maxDischargeDepth := 9) only [BK, not_false_eq_true, reduceCtorEq, ka, kr, ks, kp, kt, l_ka_wr, l_kr_wr, l_ks_wr, l_kp_wr, l_kt_wr, ne1, ne2, ne3, ne4, ne5, ne6, l_ka_V4, l_kr_V4, l_ks_V4, l_kp_V4, l_kt_V4, l_ka_V4d, l_kr_V4d, l_ks_V4d, l_kp_V4d, l_kt_V4d, l_ka_W5, l_kr_W5, l_ks_W5, l_kp_W5, l_kt_W5, l_ka_V5, l_kr_V5, l_ks_V5, l_kp_V5, l_kt_V5, l_ka_W6, l_kr_W6, l_ks_W6, l_kp_W6, l_kt_W6, l_ka_V6, l_kr_V6, l_ks_V6, l_kp_V6, l_kt_V6, l_ka_W7, l_kr_W7, l_ks_W7, l_kp_W7, l_kt_W7, l_ka_V7, l_kr_V7, l_ks_V7, l_kp_V7, l_kt_V7, l_ka_W8, l_kr_W8, l_ks_W8, l_kp_W8, l_kt_W8, l_ka_V8, l_kr_V8, l_ks_V8, l_kp_V8, l_kt_V8, l_ka_V8d, l_kr_V8d, l_ks_V8d, l_kp_V8d, l_kt_V8d, l_ka_W9, l_kr_W9, l_ks_W9, l_kp_W9, l_kt_W9] at n_kt
    have n_F : Fr ((twoX W2.heap.size (W2.heap.size + 1))) O1 O6 wr V9 := nF hV_V9
    have n_A : AP V9 (.pointer q) r3.2.2 O6 := nA hV_V9
    have z_V9 := Nat.le_of_eq (congrArg (fun v : World => v.heap.size) hV_V9).symm
    try simp only [SZ] at z_V9
    clear ka c_ka f_ka
    clear kr c_kr f_kr
    clear ks c_ks f_ks
    clear kp c_kp f_kp
    clear kt c_kt f_kt
    clear hV_V9
    clear hA
    have hA := n_A
    clear n_A
    clear hF
    have hF := n_F
    clear n_F
    have ka := n_ka; clear n_ka
    have c_ka := cells_of ka
    have f_ka := free_of ka
    have l_ka_V9 := lt_of ka
    have kr := n_kr; clear n_kr
    have c_kr := cells_of kr
    have f_kr := free_of kr
    have l_kr_V9 := lt_of kr
    have ks := n_ks; clear n_ks
    have c_ks := cells_of ks
    have f_ks := free_of ks
    have l_ks_V9 := lt_of ks
    have kp := n_kp; clear n_kp
    have c_kp := cells_of kp
    have f_kp := free_of kp
    have l_kp_V9 := lt_of kp
    have kt := n_kt; clear n_kt
    have c_kt := cells_of kt
    have f_kt := free_of kt
    have l_kt_V9 := lt_of kt
    refine (next_t (W2.heap.size + 1) w.heap.size t2.2.1 st.p.spots r3 t3 Ht3.out _ hA kt ka o_kt o_ka ne6).mono ?_
    rintro e_W10 W10 ⟨rfl, O7, hT_W10, hf_W10⟩
    have q_ka := hf_W10.keep ka o_ka (by unfold oneX; omega)
    have q_kr := hf_W10.keep kr o_kr (by unfold oneX; omega)
    have q_ks := hf_W10.keep ks o_ks (by unfold oneX; omega)
    have q_kp := hf_W10.keep kp o_kp (by unfold oneX; omega)
    replace o_ka := hf_W10.not_own (lt_of ka) o_ka
    clear ka; have ka := q_ka; clear q_ka
    have c_ka := cells_of ka
    have f_ka := free_of ka
    have l_ka_W10 := lt_of ka
    replace o_kr := hf_W10.not_own (lt_of kr) o_kr
    clear kr; have kr := q_kr; clear q_kr
    have c_kr := cells_of kr
    have f_kr := free_of kr
    have l_kr_W10 := lt_of kr
    replace o_ks := hf_W10.not_own (lt_of ks) o_ks
    clear ks; have ks := q_ks; clear q_ks
    have c_ks := cells_of ks
    have f_ks := free_of ks
    have l_ks_W10 := lt_of ks
    replace o_kp := hf_W10.not_own (lt_of kp) o_kp
    clear kp; have kp := q_kp; clear q_kp
    have c_kp := cells_of kp
    have f_kp := free_of kp
    have l_kp_W10 := lt_of kp
    clear kt c_kt f_kt o_kt; have kt := hT_W10.blk; have o_kt := hT_W10.no
    have c_kt := cells_of kt
    have f_kt := free_of kt
    have l_kt_W10 := lt_of kt
    replace hF := hF.trans (hf_W10.mono (fun x h => Or.inr h))
    have z_W10 := hf_W10.size
    clear hA hf_W10; have hA := hT_W10.hA; clear hT_W10
    go_wp2_with fail
    refine calls_gen fun V10 hV_V10 => ?_
    have n_ka := congrArg (fun v : World => v.heap[w.heap.size]?) hV_V10
    simp (maxDischargeDepth := 9) only [BK, not_false_eq_true, reduceCtorEq, ka, kr, ks, kp, kt, l_ka_wr, l_kr_wr, l_ks_wr, l_kp_wr, l_kt_wr, ne1, ne2, ne3, ne4, ne5, ne6, l_ka_V4, l_kr_V4, l_ks_V4, l_kp_V4, l_kt_V4, l_ka_V4d, l_kr_V4d, l_ks_V4d, l_kp_V4d, l_kt_V4d, l_ka_W5, l_kr_W5, l_ks_W5, l_kp_W5, l_kt_W5, l_ka_V5, l_kr_V5, l_ks_V5, l_kp_V5, l_kt_V5, l_ka_W6, l_kr_W6, l_ks_W6, l_kp_W6, l_kt_W6, l_ka_V6, l_kr_V6, l_ks_V6, l_kp_V6, l_kt_V6, l_ka_W7, l_kr_W7, l_ks_W7, l_kp_W7, l_kt_W7, l_ka_V7, l_kr_V7, l_ks_V7, l_kp_V7, l_kt_V7, l_ka_W8, l_kr_W8, l_ks_W8, l_kp_W8, l_kt_W8, l_ka_V8, l_kr_V8, l_ks_V8, l_kp_V8, l_kt_V8, l_ka_V8d, l_kr_V8d, l_ks_V8d, l_kp_V8d, l_kt_V8d, l_ka_W9, l_kr_W9, l_ks_W9, l_kp_W9, l_kt_W9, l_ka_V9, l_kr_V9, l_ks_V9, l_kp_V9, l_kt_V9, l_ka_W10, l_kr_W10, l_ks_W10, l_kp_W10, l_kt_W10] at n_ka
    have n_kr := congrArg (fun v : World => v.heap[g1]?) hV_V10
    simp (maxDischargeDepth := 9) only [BK, not_false_eq_true, reduceCtorEq, ka, kr, ks, kp, kt, l_ka_wr, l_kr_wr, l_ks_wr, l_kp_wr, l_kt_wr, ne1, ne2, ne3, ne4, ne5, ne6, l_ka_V4, l_kr_V4, l_ks_V4, l_kp_V4, l_kt_V4, l_ka_V4d, l_kr_V4d, l_ks_V4d, l_kp_V4d, l_kt_V4d, l_ka_W5, l_kr_W5, l_ks_W5, l_kp_W5, l_kt_W5, l_ka_V5, l_kr_V5, l_ks_V5, l_kp_V5, l_kt_V5, l_ka_W6, l_kr_W6, l_ks_W6, l_kp_W6, l_kt_W6, l_ka_V6, l_kr_V6, l_ks_V6, l_kp_V6, l_kt_V6, l_ka_W7, l_kr_W7, l_ks_W7, l_kp_W7, l_kt_W7, l_ka_V7, l_kr_V7, l_ks_V7, l_kp_V7, l_kt_V7, l_ka_W8, l_kr_W8, l_ks_W8, l_kp_W8, l_kt_W8, l_ka_V8, l_kr_V8, l_ks_V8, l_kp_V8, l_kt_V8, l_ka_V8d, l_kr_V8d, l_ks_V8d, l_kp_V8d, l_kt_V8d, l_ka_W9, l_kr_W9, l_ks_W9, l_kp_W9, l_kt_W9, l_ka_V9, l_kr_V9, l_ks_V9, l_kp_V9, l_kt_V9, l_ka_W10, l_kr_W10, l_ks_W10, l_kp_W10, l_kt_W10] at n_kr
    have n_ks := congrArg (fun v : World => v.heap[g2]?) hV_V10
    simp (maxDischargeDepth := 9) only [BK, not_false_eq_true, reduceCtorEq, ka, kr, ks, kp, kt, l_ka_wr, l_kr_wr, l_ks_wr, l_kp_wr, l_kt_wr, ne1, ne2, ne3, ne4, ne5, ne6, l_ka_V4, l_kr_V4, l_ks_V4, l_kp_V4, l_kt_V4, l_ka_V4d, l_kr_V4d, l_ks_V4d, l_kp_V4d, l_kt_V4d, l_ka_W5, l_kr_W5, l_ks_W5, l_kp_W5, l_kt_W5, l_ka_V5, l_kr_V5, l_ks_V5, l_kp_V5, l_kt_V5, l_ka_W6, l_kr_W6, l_ks_W6, l_kp_W6, l_kt_W6, l_ka_V6, l_kr_V6, l_ks_V6, l_kp_V6, l_kt_V6, l_ka_W7, l_kr_W7, l_ks_W7, l_kp_W7, l_kt_W7, l_ka_V7, l_kr_V7, l_ks_V7, l_kp_V7, l_kt_V7, l_ka_W8, l_kr_W8, l_ks_W8, l_kp_W8, l_kt_W8, l_ka_V8, l_kr_V8, l_ks_V8, l_kp_V8, l_kt_V8, l_ka_V8d, l_kr_V8d, l_ks_V8d, l_kp_V8d, l_kt_V8d, l_ka_W9, l_kr_W9, l_ks_W9, l_kp_W9, l_kt_W9, l_ka_V9, l_kr_V9, l_ks_V9, l_kp_V9, l_kt_V9, l_ka_W10, l_kr_W10, l_ks_W10, l_kp_W10, l_kt_W10] at n_ks
    have n_kp := congrArg (fun v : World => v.heap[W2.heap.size]?) hV_V10
    simp (maxDischargeDepth := 9) only [BK, not_false_eq_true, reduceCtorEq, ka, kr, ks, kp, kt, l_ka_wr, l_kr_wr, l_ks_wr, l_kp_wr, l_kt_wr, ne1, ne2, ne3, ne4, ne5, ne6, l_ka_V4, l_kr_V4, l_ks_V4, l_kp_V4, l_kt_V4, l_ka_V4d, l_kr_V4d, l_ks_V4d, l_kp_V4d, l_kt_V4d, l_ka_W5, l_kr_W5, l_ks_W5, l_kp_W5, l_kt_W5, l_ka_V5, l_kr_V5, l_ks_V5, l_kp_V5, l_kt_V5, l_ka_W6, l_kr_W6, l_ks_W6, l_kp_W6, l_kt_W6, l_ka_V6, l_kr_V6, l_ks_V6, l_kp_V6, l_kt_V6, l_ka_W7, l_kr_W7, l_ks_W7, l_kp_W7, l_kt_W7, l_ka_V7, l_kr_V7, l_ks_V7, l_kp_V7, l_kt_V7, l_ka_W8, l_kr_W8, l_ks_W8, l_kp_W8, l_kt_W8, l_ka_V8, l_kr_V8, l_ks_V8, l_kp_V8, l_kt_V8, l_ka_V8d, l_kr_V8d, l_ks_V8d, l_kp_V8d, l_kt_V8d, l_ka_W9, l_kr_W9, l_ks_W9, l_kp_W9, l_kt_W9, l_ka_V9, l_kr_V9, l_ks_V9, l_kp_V9, l_kt_V9, l_ka_W10, l_kr_W10, l_ks_W10, l_kp_W10, l_kt_W10] at n_kp
    have n_kt := congrArg (fun v : World => v.heap[W2.heap.size + 1]?) hV_V10
    simp (maxDischargeDepth := 9) only [BK, not_false_eq_true, reduceCtorEq, ka, kr, ks, kp, kt, l_ka_wr, l_kr_wr, l_ks_wr, l_kp_wr, l_kt_wr, ne1, ne2, ne3, ne4, ne5, ne6, l_ka_V4, l_kr_V4, l_ks_V4, l_kp_V4, l_kt_V4, l_ka_V4d, l_kr_V4d, l_ks_V4d, l_kp_V4d, l_kt_V4d, l_ka_W5, l_kr_W5, l_ks_W5, l_kp_W5, l_kt_W5, l_ka_V5, l_kr_V5, l_ks_V5, l_kp_V5, l_kt_V5, l_ka_W6, l_kr_W6, l_ks_W6, l_kp_W6, l_kt_W6, l_ka_V6, l_kr_V6, l_ks_V6, l_kp_V6, l_kt_V6, l_ka_W7, l_kr_W7, l_ks_W7, l_kp_W7, l_kt_W7, l_ka_V7, l_kr_V7, l_ks_V7, l_kp_V7, l_kt_V7, l_ka_W8, l_kr_W8, l_ks_W8, l_kp_W8, l_kt_W8, l_ka_V8, l_kr_V8, l_ks_V8, l_kp_V8, l_kt_V8, l_ka_V8d, l_kr_V8d, l_ks_V8d, l_kp_V8d, l_kt_V8d, l_ka_W9, l_kr_W9, l_ks_W9, l_kp_W9, l_kt_W9, l_ka_V9, l_kr_V9, l_ks_V9, l_kp_V9, l_kt_V9, l_ka_W10, l_kr_W10, l_ks_W10, l_kp_W10, l_kt_W10] at n_kt
    have n_F : Fr ((twoX W2.heap.size (W2.heap.size + 1))) O1 O7 wr V10 := nF hV_V10
    have n_A : AP V10 (.pointer q) ((⟨t3.2.2, 0⟩ : Tb)).s O7 := nA hV_V10
    have z_V10 := Nat.le_of_eq (congrArg (fun v : World => v.heap.size) hV_V10).symm
    try simp only [SZ] at z_V10
    clear ka c_ka f_ka
    clear kr c_kr f_kr
    clear ks c_ks f_ks
    clear kp c_kp f_kp
    clear kt c_kt f_kt
    clear hV_V10
    clear hA
    have hA := n_A
    clear n_A
    clear hF
    have hF := n_F
    clear n_F
    have ka := n_ka; clear n_ka
    have c_ka := cells_of ka
    have f_ka := free_of ka
    have l_ka_V10 := lt_of ka
    have kr := n_kr; clear n_kr
    have c_kr := cells_of kr
    have f_kr := free_of kr
    have l_kr_V10 := lt_of kr
    have ks := n_ks; clear n_ks
    have c_ks := cells_of ks
    have f_ks := free_of ks
    have l_ks_V10 := lt_of ks
    have kp := n_kp; clear n_kp
    have c_kp := cells_of kp
    have f_kp := free_of kp
    have l_kp_V10 := lt_of kp
    have kt := n_kt; clear n_kt
    have c_kt := cells_of kt
    have f_kt := free_of kt
    have l_kt_V10 := lt_of kt
    refine (work_calls (s := t3.2.2) 1073741824 u Hu.out _ hA).mono ?_
    rintro e_W11 W11 ⟨rfl, O8, hA_W11, hf_W11⟩
    have q_ka := hf_W11.keep ka o_ka (fun h => h)
    have q_kr := hf_W11.keep kr o_kr (fun h => h)
    have q_ks := hf_W11.keep ks o_ks (fun h => h)
    have q_kp := hf_W11.keep kp o_kp (fun h => h)
    have q_kt := hf_W11.keep kt o_kt (fun h => h)
    replace o_ka := hf_W11.not_own (lt_of ka) o_ka
    clear ka; have ka := q_ka; clear q_ka
    have c_ka := cells_of ka
    have f_ka := free_of ka
    have l_ka_W11 := lt_of ka
    replace o_kr := hf_W11.not_own (lt_of kr) o_kr
    clear kr; have kr := q_kr; clear q_kr
    have c_kr := cells_of kr
    have f_kr := free_of kr
    have l_kr_W11 := lt_of kr
    replace o_ks := hf_W11.not_own (lt_of ks) o_ks
    clear ks; have ks := q_ks; clear q_ks
    have c_ks := cells_of ks
    have f_ks := free_of ks
    have l_ks_W11 := lt_of ks
    replace o_kp := hf_W11.not_own (lt_of kp) o_kp
    clear kp; have kp := q_kp; clear q_kp
    have c_kp := cells_of kp
    have f_kp := free_of kp
    have l_kp_W11 := lt_of kp
    replace o_kt := hf_W11.not_own (lt_of kt) o_kt
    clear kt; have kt := q_kt; clear q_kt
    have c_kt := cells_of kt
    have f_kt := free_of kt
    have l_kt_W11 := lt_of kt
    replace hF := hF.trans hf_W11.widen
    have z_W11 := hf_W11.size
    clear hA hf_W11; have hA := hA_W11; clear hA_W11
    obtain rfl := Hst.out
    have HF2 := Lib.hid (HF.out.trans_own hF hY)
    have hdoc2 := Lib.hid (hdoc.out.fr hF oD hX)
    have oD2 := hF.not_own (by have := HF.out.size; omega) oD
    have HA2 := Lib.hid hA
    clear hF hdoc oD hA
    go_wp2_with fail
    go_roundg k
    case measure => omega
    case rel => exact ⟨i + 1, _, O8, rfl, by first | rfl | (rw [E3.out]; rfl), by omega, HA2.out, HF2, kp, kt, ka, kr, ks, o_kp, o_kt, o_ka, o_kr, o_ks, oD2, hdoc2, Lib.hid (by exact Hb2.out)⟩
   ·
    have m1 : ((r.2 : Int) % rate == 0) = false := by rw [beq_eq_false_iff_ne]; exact hm
    have hst := Hst2.out
    rw [if_neg hm] at hst
    obtain ⟨u, hu, hst⟩ := Option.map_eq_some_iff.1 hst
    have Hu := Lib.hid hu; have Hst := Lib.hid hst; have Hm := Lib.hid hm
    have Hr2' : Hid (bInsert t1.2.2 st.p.marks (i : Int) ((r.2 : Int) % rate == 0) = some r2) := Lib.hid Hr2.out
    rw [m1] at Hr2' ⊢
    clear hst hu hm
    refine (bInsert_calls (s := t1.2.2) _ _ _ r2 Hr2'.out _ hA).mono ?_
    rintro e_W7 W7 ⟨rfl, O4, hA_W7, hf_W7⟩
    have q_ka := hf_W7.keep ka o_ka (fun h => h)
    have q_kr := hf_W7.keep kr o_kr (fun h => h)
    have q_ks := hf_W7.keep ks o_ks (fun h => h)
    have q_kp := hf_W7.keep kp o_kp (fun h => h)
    have q_kt := hf_W7.keep kt o_kt (fun h => h)
    replace o_ka := hf_W7.not_own (lt_of ka) o_ka
    clear ka; have ka := q_ka; clear q_ka
    have c_ka := cells_of ka
    have f_ka := free_of ka
    have l_ka_W7 := lt_of ka
    replace o_kr := hf_W7.not_own (lt_of kr) o_kr
    clear kr; have kr := q_kr; clear q_kr
    have c_kr := cells_of kr
    have f_kr := free_of kr
    have l_kr_W7 := lt_of kr
    replace o_ks := hf_W7.not_own (lt_of ks) o_ks
    clear ks; have ks := q_ks; clear q_ks
    have c_ks := cells_of ks
    have f_ks := free_of ks
    have l_ks_W7 := lt_of ks
    replace o_kp := hf_W7.not_own (lt_of kp) o_kp
    clear kp; have kp := q_kp; clear q_kp
    have c_kp := cells_of kp
    have f_kp := free_of kp
    have l_kp_W7 := lt_of kp
    replace o_kt := hf_W7.not_own (lt_of kt) o_kt
    clear kt; have kt := q_kt; clear q_kt
    have c_kt := cells_of kt
    have f_kt := free_of kt
    have l_kt_W7 := lt_of kt
    replace hF := hF.trans hf_W7.widen
    have z_W7 := hf_W7.size
    clear hA hf_W7; have hA := hA_W7; clear hA_W7
    go_wp2_with fail
    refine calls_gen fun V7 hV_V7 => ?_
    have n_ka := congrArg (fun v : World => v.heap[w.heap.size]?) hV_V7
    simp (maxDischargeDepth := 9) only [BK, not_false_eq_true, reduceCtorEq, ka, kr, ks, kp, kt, l_ka_wr, l_kr_wr, l_ks_wr, l_kp_wr, l_kt_wr, ne1, ne2, ne3, ne4, ne5, ne6, l_ka_V4, l_kr_V4, l_ks_V4, l_kp_V4, l_kt_V4, l_ka_V4d, l_kr_V4d, l_ks_V4d, l_kp_V4d, l_kt_V4d, l_ka_W5, l_kr_W5, l_ks_W5, l_kp_W5, l_kt_W5, l_ka_V5, l_kr_V5, l_ks_V5, l_kp_V5, l_kt_V5, l_ka_W6, l_kr_W6, l_ks_W6, l_kp_W6, l_kt_W6, l_ka_V6, l_kr_V6, l_ks_V6, l_kp_V6, l_kt_V6, l_ka_W7, l_kr_W7, l_ks_W7, l_kp_W7, l_kt_W7] at n_ka
    have n_kr := congrArg (fun v : World => v.heap[g1]?) hV_V7
    simp (maxDischargeDepth := 9) only [BK, not_false_eq_true, reduceCtorEq, ka, kr, ks, kp, kt, l_ka_wr, l_kr_wr, l_ks_wr, l_kp_wr, l_kt_wr, ne1, ne2, ne3, ne4, ne5, ne6, l_ka_V4, l_kr_V4, l_ks_V4, l_kp_V4, l_kt_V4, l_ka_V4d, l_kr_V4d, l_ks_V4d, l_kp_V4d, l_kt_V4d, l_ka_W5, l_kr_W5, l_ks_W5, l_kp_W5, l_kt_W5, l_ka_V5, l_kr_V5, l_ks_V5, l_kp_V5, l_kt_V5, l_ka_W6, l_kr_W6, l_ks_W6, l_kp_W6, l_kt_W6, l_ka_V6, l_kr_V6, l_ks_V6, l_kp_V6, l_kt_V6, l_ka_W7, l_kr_W7, l_ks_W7, l_kp_W7, l_kt_W7] at n_kr
    have n_ks := congrArg (fun v : World => v.heap[g2]?) hV_V7
    simp (maxDischargeDepth := 9) only [BK, not_false_eq_true, reduceCtorEq, ka, kr, ks, kp, kt, l_ka_wr, l_kr_wr, l_ks_wr, l_kp_wr, l_kt_wr, ne1, ne2, ne3, ne4, ne5, ne6, l_ka_V4, l_kr_V4, l_ks_V4, l_kp_V4, l_kt_V4, l_ka_V4d, l_kr_V4d, l_ks_V4d, l_kp_V4d, l_kt_V4d, l_ka_W5, l_kr_W5, l_ks_W5, l_kp_W5, l_kt_W5, l_ka_V5, l_kr_V5, l_ks_V5, l_kp_V5, l_kt_V5, l_ka_W6, l_kr_W6, l_ks_W6, l_kp_W6, l_kt_W6, l_ka_V6, l_kr_V6, l_ks_V6, l_kp_V6, l_kt_V6, l_ka_W7, l_kr_W7, l_ks_W7, l_kp_W7, l_kt_W7] at n_ks
    have n_kp := congrArg (fun v : World => v.heap[W2.heap.size]?) hV_V7
    simp (maxDischargeDepth := 9) only [BK, not_false_eq_true, reduceCtorEq, ka, kr, ks, kp, kt, l_ka_wr, l_kr_wr, l_ks_wr, l_kp_wr, l_kt_wr, ne1, ne2, ne3, ne4, ne5, ne6, l_ka_V4, l_kr_V4, l_ks_V4, l_kp_V4, l_kt_V4, l_ka_V4d, l_kr_V4d, l_ks_V4d, l_kp_V4d, l_kt_V4d, l_ka_W5, l_kr_W5, l_ks_W5, l_kp_W5, l_kt_W5, l_ka_V5, l_kr_V5, l_ks_V5, l_kp_V5, l_kt_V5, l_ka_W6, l_kr_W6, l_ks_W6, l_kp_W6, l_kt_W6, l_ka_V6, l_kr_V6, l_ks_V6, l_kp_V6, l_kt_V6, l_ka_W7, l_kr_W7, l_ks_W7, l_kp_W7, l_kt_W7] at n_kp
    have n_kt := congrArg (fun v : World => v.heap[W2.heap.size + 1]?) hV_V7
    simp (maxDischargeDepth := 9) only [BK, not_false_eq_true, reduceCtorEq, ka, kr, ks, kp, kt, l_ka_wr, l_kr_wr, l_ks_wr, l_kp_wr, l_kt_wr, ne1, ne2, ne3, ne4, ne5, ne6, l_ka_V4, l_kr_V4, l_ks_V4, l_kp_V4, l_kt_V4, l_ka_V4d, l_kr_V4d, l_ks_V4d, l_kp_V4d, l_kt_V4d, l_ka_W5, l_kr_W5, l_ks_W5, l_kp_W5, l_kt_W5, l_ka_V5, l_kr_V5, l_ks_V5, l_kp_V5, l_kt_V5, l_ka_W6, l_kr_W6, l_ks_W6, l_kp_W6, l_kt_W6, l_ka_V6, l_kr_V6, l_ks_V6, l_kp_V6, l_kt_V6, l_ka_W7, l_kr_W7, l_ks_W7, l_kp_W7, l_kt_W7] at n_kt
    have n_F : Fr ((twoX W2.heap.size (W2.heap.size + 1))) O1 O4 wr V7 := nF hV_V7
    have n_A : AP V7 (.pointer q) r2.2.2 O4 := nA hV_V7
    have z_V7 := Nat.le_of_eq (congrArg (fun v : World => v.heap.size) hV_V7).symm
    try simp only [SZ] at z_V7
    clear ka c_ka f_ka
    clear kr c_kr f_kr
    clear ks c_ks f_ks
    clear kp c_kp f_kp
    clear kt c_kt f_kt
    clear hV_V7
    clear hA
    have hA := n_A
    clear n_A
    clear hF
    have hF := n_F
    clear n_F
    have ka := n_ka; clear n_ka
    have c_ka := cells_of ka
    have f_ka := free_of ka
    have l_ka_V7 := lt_of ka
    have kr := n_kr; clear n_kr
    have c_kr := cells_of kr
    have f_kr := free_of kr
    have l_kr_V7 := lt_of kr
    have ks := n_ks; clear n_ks
    have c_ks := cells_of ks
    have f_ks := free_of ks
    have l_ks_V7 := lt_of ks
    have kp := n_kp; clear n_kp
    have c_kp := cells_of kp
    have f_kp := free_of kp
    have l_kp_V7 := lt_of kp
    have kt := n_kt; clear n_kt
    have c_kt := cells_of kt
    have f_kt := free_of kt
    have l_kt_V7 := lt_of kt
    refine (next_t (W2.heap.size + 1) w.heap.size t1.2.1 st.p.marks r2 t2 Ht2.out _ hA kt ka o_kt o_ka ne6).mono ?_
    rintro e_W8 W8 ⟨rfl, O5, hT_W8, hf_W8⟩
    have q_ka := hf_W8.keep ka o_ka (by unfold oneX; omega)
    have q_kr := hf_W8.keep kr o_kr (by unfold oneX; omega)
    have q_ks := hf_W8.keep ks o_ks (by unfold oneX; omega)
    have q_kp := hf_W8.keep kp o_kp (by unfold oneX; omega)
    replace o_ka := hf_W8.not_own (lt_of ka) o_ka
    clear ka; have ka := q_ka; clear q_ka
    have c_ka := cells_of ka
    have f_ka := free_of ka
    have l_ka_W8 := lt_of ka
    replace o_kr := hf_W8.not_own (lt_of kr) o_kr
    clear kr; have kr := q_kr; clear q_kr
    have c_kr := cells_of kr
    have f_kr := free_of kr
    have l_kr_W8 := lt_of kr
    replace o_ks := hf_W8.not_own (lt_of ks) o_ks
    clear ks; have ks := q_ks; clear q_ks
    have c_ks := cells_of ks
    have f_ks := free_of ks
    have l_ks_W8 := lt_of ks
    replace o_kp := hf_W8.not_own (lt_of kp) o_kp
    clear kp; have kp := q_kp; clear q_kp
    have c_kp := cells_of kp
    have f_kp := free_of kp
    have l_kp_W8 := lt_of kp
    clear kt c_kt f_kt o_kt; have kt := hT_W8.blk; have o_kt := hT_W8.no
    have c_kt := cells_of kt
    have f_kt := free_of kt
    have l_kt_W8 := lt_of kt
    replace hF := hF.trans (hf_W8.mono (fun x h => Or.inr h))
    have z_W8 := hf_W8.size
    clear hA hf_W8; have hA := hT_W8.hA; clear hT_W8
    go_wp2_with fail
    refine calls_gen fun V8 hV_V8 => ?_
    have n_ka := congrArg (fun v : World => v.heap[w.heap.size]?) hV_V8
    simp (maxDischargeDepth := 9) only [BK, not_false_eq_true, reduceCtorEq, ka, kr, ks, kp, kt, l_ka_wr, l_kr_wr, l_ks_wr, l_kp_wr, l_kt_wr, ne1, ne2, ne3, ne4, ne5, ne6, l_ka_V4, l_kr_V4, l_ks_V4, l_kp_V4, l_kt_V4, l_ka_V4d, l_kr_V4d, l_ks_V4d, l_kp_V4d, l_kt_V4d, l_ka_W5, l_kr_W5, l_ks_W5, l_kp_W5, l_kt_W5, l_ka_V5, l_kr_V5, l_ks_V5, l_kp_V5, l_kt_V5, l_ka_W6, l_kr_W6, l_ks_W6, l_kp_W6, l_kt_W6, l_ka_V6, l_kr_V6, l_ks_V6, l_kp_V6, l_kt_V6, l_ka_W7, l_kr_W7, l_ks_W7, l_kp_W7, l_kt_W7, l_ka_V7, l_kr_V7, l_ks_V7, l_kp_V7, l_kt_V7, l_ka_W8, l_kr_W8, l_ks_W8, l_kp_W8, l_kt_W8] at n_ka
    have n_kr := congrArg (fun v : World => v.heap[g1]?) hV_V8
    simp (maxDischargeDepth := 9) only [BK, not_false_eq_true, reduceCtorEq, ka, kr, ks, kp, kt, l_ka_wr, l_kr_wr, l_ks_wr, l_kp_wr, l_kt_wr, ne1, ne2, ne3, ne4, ne5, ne6, l_ka_V4, l_kr_V4, l_ks_V4, l_kp_V4, l_kt_V4, l_ka_V4d, l_kr_V4d, l_ks_V4d, l_kp_V4d, l_kt_V4d, l_ka_W5, l_kr_W5, l_ks_W5, l_kp_W5, l_kt_W5, l_ka_V5, l_kr_V5, l_ks_V5, l_kp_V5, l_kt_V5, l_ka_W6, l_kr_W6, l_ks_W6, l_kp_W6, l_kt_W6, l_ka_V6, l_kr_V6, l_ks_V6, l_kp_V6, l_kt_V6, l_ka_W7, l_kr_W7, l_ks_W7, l_kp_W7, l_kt_W7, l_ka_V7, l_kr_V7, l_ks_V7, l_kp_V7, l_kt_V7, l_ka_W8, l_kr_W8, l_ks_W8, l_kp_W8, l_kt_W8] at n_kr
    have n_ks := congrArg (fun v : World => v.heap[g2]?) hV_V8
    simp (maxDischargeDepth := 9) only [BK, not_false_eq_true, reduceCtorEq, ka, kr, ks, kp, kt, l_ka_wr, l_kr_wr, l_ks_wr, l_kp_wr, l_kt_wr, ne1, ne2, ne3, ne4, ne5, ne6, l_ka_V4, l_kr_V4, l_ks_V4, l_kp_V4, l_kt_V4, l_ka_V4d, l_kr_V4d, l_ks_V4d, l_kp_V4d, l_kt_V4d, l_ka_W5, l_kr_W5, l_ks_W5, l_kp_W5, l_kt_W5, l_ka_V5, l_kr_V5, l_ks_V5, l_kp_V5, l_kt_V5, l_ka_W6, l_kr_W6, l_ks_W6, l_kp_W6, l_kt_W6, l_ka_V6, l_kr_V6, l_ks_V6, l_kp_V6, l_kt_V6, l_ka_W7, l_kr_W7, l_ks_W7, l_kp_W7, l_kt_W7, l_ka_V7, l_kr_V7, l_ks_V7, l_kp_V7, l_kt_V7, l_ka_W8, l_kr_W8, l_ks_W8, l_kp_W8, l_kt_W8] at n_ks
    have n_kp := congrArg (fun v : World => v.heap[W2.heap.size]?) hV_V8
    simp (maxDischargeDepth := 9) only [BK, not_false_eq_true, reduceCtorEq, ka, kr, ks, kp, kt, l_ka_wr, l_kr_wr, l_ks_wr, l_kp_wr, l_kt_wr, ne1, ne2, ne3, ne4, ne5, ne6, l_ka_V4, l_kr_V4, l_ks_V4, l_kp_V4, l_kt_V4, l_ka_V4d, l_kr_V4d, l_ks_V4d, l_kp_V4d, l_kt_V4d, l_ka_W5, l_kr_W5, l_ks_W5, l_kp_W5, l_kt_W5, l_ka_V5, l_kr_V5, l_ks_V5, l_kp_V5, l_kt_V5, l_ka_W6, l_kr_W6, l_ks_W6, l_kp_W6, l_kt_W6, l_ka_V6, l_kr_V6, l_ks_V6, l_kp_V6, l_kt_V6, l_ka_W7, l_kr_W7, l_ks_W7, l_kp_W7, l_kt_W7, l_ka_V7, l_kr_V7, l_ks_V7, l_kp_V7, l_kt_V7, l_ka_W8, l_kr_W8, l_ks_W8, l_kp_W8, l_kt_W8] at n_kp
    have n_kt := congrArg (fun v : World => v.heap[W2.heap.size + 1]?) hV_V8
    simp (maxDischargeDepth := 9) only [BK, not_false_eq_true, reduceCtorEq, ka, kr, ks, kp, kt, l_ka_wr, l_kr_wr, l_ks_wr, l_kp_wr, l_kt_wr, ne1, ne2, ne3, ne4, ne5, ne6, l_ka_V4, l_kr_V4, l_ks_V4, l_kp_V4, l_kt_V4, l_ka_V4d, l_kr_V4d, l_ks_V4d, l_kp_V4d, l_kt_V4d, l_ka_W5, l_kr_W5, l_ks_W5, l_kp_W5, l_kt_W5, l_ka_V5, l_kr_V5, l_ks_V5, l_kp_V5, l_kt_V5, l_ka_W6, l_kr_W6, l_ks_W6, l_kp_W6, l_kt_W6, l_ka_V6, l_kr_V6, l_ks_V6, l_kp_V6, l_kt_V6, l_ka_W7, l_kr_W7, l_ks_W7, l_kp_W7, l_kt_W7, l_ka_V7, l_kr_V7, l_ks_V7, l_kp_V7, l_kt_V7, l_ka_W8, l_kr_W8, l_ks_W8, l_kp_W8, l_kt_W8] at n_kt
    have n_F : Fr ((twoX W2.heap.size (W2.heap.size + 1))) O1 O5 wr V8 := nF hV_V8
    have n_A : AP V8 (.pointer q) ((⟨t2.2.2, 0⟩ : Tb)).s O5 := nA hV_V8
    have z_V8 := Nat.le_of_eq (congrArg (fun v : World => v.heap.size) hV_V8).symm
    try simp only [SZ] at z_V8
    clear ka c_ka f_ka
    clear kr c_kr f_kr
    clear ks c_ks f_ks
    clear kp c_kp f_kp
    clear kt c_kt f_kt
    clear hV_V8
    clear hA
    have hA := n_A
    clear n_A
    clear hF
    have hF := n_F
    clear n_F
    have ka := n_ka; clear n_ka
    have c_ka := cells_of ka
    have f_ka := free_of ka
    have l_ka_V8 := lt_of ka
    have kr := n_kr; clear n_kr
    have c_kr := cells_of kr
    have f_kr := free_of kr
    have l_kr_V8 := lt_of kr
    have ks := n_ks; clear n_ks
    have c_ks := cells_of ks
    have f_ks := free_of ks
    have l_ks_V8 := lt_of ks
    have kp := n_kp; clear n_kp
    have c_kp := cells_of kp
    have f_kp := free_of kp
    have l_kp_V8 := lt_of kp
    have kt := n_kt; clear n_kt
    have c_kt := cells_of kt
    have f_kt := free_of kt
    have l_kt_V8 := lt_of kt
    refine (work_calls (s := t2.2.2) 1073741824 u Hu.out _ hA).mono ?_
    rintro e_W11 W11 ⟨rfl, O8, hA_W11, hf_W11⟩
    have q_ka := hf_W11.keep ka o_ka (fun h => h)
    have q_kr := hf_W11.keep kr o_kr (fun h => h)
    have q_ks := hf_W11.keep ks o_ks (fun h => h)
    have q_kp := hf_W11.keep kp o_kp (fun h => h)
    have q_kt := hf_W11.keep kt o_kt (fun h => h)
    replace o_ka := hf_W11.not_own (lt_of ka) o_ka
    clear ka; have ka := q_ka; clear q_ka
    have c_ka := cells_of ka
    have f_ka := free_of ka
    have l_ka_W11 := lt_of ka
    replace o_kr := hf_W11.not_own (lt_of kr) o_kr
    clear kr; have kr := q_kr; clear q_kr
    have c_kr := cells_of kr
    have f_kr := free_of kr
    have l_kr_W11 := lt_of kr
    replace o_ks := hf_W11.not_own (lt_of ks) o_ks
    clear ks; have ks := q_ks; clear q_ks
    have c_ks := cells_of ks
    have f_ks := free_of ks
    have l_ks_W11 := lt_of ks
    replace o_kp := hf_W11.not_own (lt_of kp) o_kp
    clear kp; have kp := q_kp; clear q_kp
    have c_kp := cells_of kp
    have f_kp := free_of kp
    have l_kp_W11 := lt_of kp
    replace o_kt := hf_W11.not_own (lt_of kt) o_kt
    clear kt; have kt := q_kt; clear q_kt
    have c_kt := cells_of kt
    have f_kt := free_of kt
    have l_kt_W11 := lt_of kt
    replace hF := hF.trans hf_W11.widen
    have z_W11 := hf_W11.size
    clear hA hf_W11; have hA := hA_W11; clear hA_W11
    obtain rfl := Hst.out
    have HF2 := Lib.hid (HF.out.trans_own hF hY)
    have hdoc2 := Lib.hid (hdoc.out.fr hF oD hX)
    have oD2 := hF.not_own (by have := HF.out.size; omega) oD
    have HA2 := Lib.hid hA
    clear hF hdoc oD hA
    go_wp2_with fail
    go_roundg k
    case measure => omega
    case rel => exact ⟨i + 1, (⟨u.2, t2.2.1, ⟨t1.1, t2.1, st.p.spots, st.p.table⟩, st.n⟩ : Bst), O8, rfl, by first | rfl | (rw [E3.out]; rfl), by omega, HA2.out, HF2, kp, kt, ka, kr, ks, o_kp, o_kt, o_ka, o_kr, o_ks, oD2, hdoc2, Lib.hid (by exact Hb2.out)⟩
  ·
   obtain rfl : i = R.length := by omega
   have hb := Hb.out
   rw [List.drop_of_length_le (by omega)] at hb
   unfold bRows at hb
   obtain rfl := Option.some.inj hb
   have n1 : decide ((R.length : Int) < (R.length : Int)) = false := by simp
   clear hb Hb hlt hk
   go_wp2_with fail
   go_loopg [126] ds.length (fun k p1 wr => ∃ (i : Nat) (st : Bst) (O' : Nat → Prop), p1 = .int .i64 (i : Int) ∧ i + k = ds.length ∧ AP wr (.pointer q) st.s O' ∧ Hid (Fr noX O O' w wr)
    ∧ wr.heap[W2.heap.size]? = some (.cells #[.int .i64 st.p.wave, .int .i64 st.p.marks, .int .i64 st.p.spots, .int .i64 st.p.table] 67 (0, 0)) ∧ wr.heap[W2.heap.size + 1]? = some (.cells #[.bool st.ok] 4 (0, 0)) ∧ wr.heap[w.heap.size]? = some (.cells #[.pointer q] 25 (0, 0))
    ∧ ¬ O' (W2.heap.size) ∧ ¬ O' (W2.heap.size + 1) ∧ ¬ O' w.heap.size ∧ ¬ O' ad.block ∧ Hid (Rd2 wr (.slice (some ad) ds.length cap) ds) ∧ Hid (bTable ((docsM ds).drop i) st = some B2))
   case atStart => exact ⟨0, _, O1, rfl, by omega, hA, HF, kp, kt, ka, o_kp, o_kt, o_ka, oD, hdoc, H2⟩
   case round =>
    clear hA HF kp kt ka kr ks o_kp o_kt o_ka o_kr o_ks oD hdoc
    obtain ⟨i, st, O1, rfl, hk, hA, HF, kp, kt, ka, o_kp, o_kt, o_ka, oD, hdoc, Hb⟩ := hrel
    have hadlt : ad.block < w.heap.size := by
     obtain ⟨A, c, hv, hc⟩ := HD.out
     obtain ⟨rfl, -, rfl⟩ := Value.slice.inj hv
     obtain ⟨ad', ha, hlt, -⟩ := hc hlen
     obtain rfl := Option.some.inj ha
     exact hlt
    have hX : ¬ twoX W2.heap.size (W2.heap.size + 1) ad.block := by unfold twoX; omega
    by_cases hlt : i < ds.length
    ·
     obtain ⟨k, rfl⟩ : ∃ k, gk = k + 1 := ⟨gk - 1, by omega⟩
     obtain ⟨d, hd⟩ := at_some hlt
     have hx : (docsM ds)[i]? = some (d.1, (d.2.length : Int)) := by unfold docsM; rw [List.getElem?_map, hd]; rfl
     have hb := Hb.out
     rw [drop_at hx] at hb
     unfold bTable at hb
     obtain ⟨a, ha, hb⟩ := Option.bind_eq_some_iff.1 hb
     have hla : a.length ≤ 50000 := by
      by_cases h : a.length ≤ 50000
      ·
       exact h
      ·
       rw [if_neg h] at hb; cases hb
     rw [if_pos hla] at hb
     obtain ⟨r, hr, hb⟩ := Option.bind_eq_some_iff.1 hb
     obtain ⟨t, ht⟩ : ∃ t, nextA st.ok st.p.table r = t := ⟨_, rfl⟩
     rw [ht] at hb
     dsimp only at hr
     have Ha := Lib.hid ha; have Hr := Lib.hid hr; have Hb2 := Lib.hid hb; have Ht := Lib.hid ht
     have m1 : decide ((i : Int) < (ds.length : Int)) = true := by simpa using hlt
     have m2 : (i : Int) < (ds.length : Int) := by omega
     have E3 := Lib.hid (step_wrap i 500 (by omega) (by omega))
     obtain ⟨cd1, cd2⟩ : wr.cell? (ad.add (i * 2)) = some (.int .i64 d.1) ∧ wr.cell? ⟨(ad.add (i * 2)).block, (ad.add (i * 2)).off + 1, none⟩ = some (.string ⟨d.2.toArray⟩) := by
      obtain ⟨A, c, hv, hc⟩ := hdoc.out
      obtain ⟨rfl, -, rfl⟩ := Value.slice.inj hv
      obtain ⟨ad', ha, hlt, hc⟩ := hc hlen
      obtain rfl := Option.some.inj ha
      obtain ⟨-, q1, q2⟩ := hc i d hd
      exact ⟨q1, q2⟩
     clear hb ha hr ht hd hx hlt Hb
     have hF := Fr.refl ((twoX W2.heap.size (W2.heap.size + 1))) O1 wr
     have c_ka := cells_of ka
     have f_ka := free_of ka
     have l_ka_wr := lt_of ka
     have c_kp := cells_of kp
     have f_kp := free_of kp
     have l_kp_wr := lt_of kp
     have c_kt := cells_of kt
     have f_kt := free_of kt
     have l_kt_wr := lt_of kt
     go_wp2_with fail
     refine calls_gen fun V4 hV_V4 => ?_
     have n_ka := congrArg (fun v : World => v.heap[w.heap.size]?) hV_V4
     simp (maxDischargeDepth := 9) only [BK, not_false_eq_true, reduceCtorEq, ka, kp, kt, l_ka_wr, l_kp_wr, l_kt_wr, ne5, ne6] at n_ka
     have n_kp := congrArg (fun v : World => v.heap[W2.heap.size]?) hV_V4
     simp (maxDischargeDepth := 9) only [BK, not_false_eq_true, reduceCtorEq, ka, kp, kt, l_ka_wr, l_kp_wr, l_kt_wr, ne5, ne6] at n_kp
     have n_kt := congrArg (fun v : World => v.heap[W2.heap.size + 1]?) hV_V4
     simp (maxDischargeDepth := 9) only [BK, not_false_eq_true, reduceCtorEq, ka, kp, kt, l_ka_wr, l_kp_wr, l_kt_wr, ne5, ne6] at n_kt
     have n_F : Fr ((twoX W2.heap.size (W2.heap.size + 1))) O1 O1 wr V4 := nF hV_V4
     have n_A : AP V4 (.pointer q) st.s O1 := nA hV_V4
     have z_V4 := Nat.le_of_eq (congrArg (fun v : World => v.heap.size) hV_V4).symm
     try simp only [SZ] at z_V4
     clear ka c_ka f_ka
     clear kp c_kp f_kp
     clear kt c_kt f_kt
     clear hV_V4
     clear hA
     have hA := n_A
     clear n_A
     clear hF
     have hF := n_F
     clear n_F
     have ka := n_ka; clear n_ka
     have c_ka := cells_of ka
     have f_ka := free_of ka
     have l_ka_V4 := lt_of ka
     have kp := n_kp; clear n_kp
     have c_kp := cells_of kp
     have f_kp := free_of kp
     have l_kp_V4 := lt_of kp
     have kt := n_kt; clear n_kt
     have c_kt := cells_of kt
     have f_kt := free_of kt
     have l_kt_V4 := lt_of kt
     refine (tAdd_calls _ _ _ a Ha.out hla r Hr.out _ hA).mono ?_
     rintro e_W5 W5 ⟨rfl, O2, hA_W5, hf_W5⟩
     have q_ka := hf_W5.keep ka o_ka (fun h => h)
     have q_kp := hf_W5.keep kp o_kp (fun h => h)
     have q_kt := hf_W5.keep kt o_kt (fun h => h)
     replace o_ka := hf_W5.not_own (lt_of ka) o_ka
     clear ka; have ka := q_ka; clear q_ka
     have c_ka := cells_of ka
     have f_ka := free_of ka
     have l_ka_W5 := lt_of ka
     replace o_kp := hf_W5.not_own (lt_of kp) o_kp
     clear kp; have kp := q_kp; clear q_kp
     have c_kp := cells_of kp
     have f_kp := free_of kp
     have l_kp_W5 := lt_of kp
     replace o_kt := hf_W5.not_own (lt_of kt) o_kt
     clear kt; have kt := q_kt; clear q_kt
     have c_kt := cells_of kt
     have f_kt := free_of kt
     have l_kt_W5 := lt_of kt
     replace hF := hF.trans hf_W5.widen
     have z_W5 := hf_W5.size
     clear hA hf_W5; have hA := hA_W5; clear hA_W5
     go_wp2_with fail
     refine calls_gen fun V5 hV_V5 => ?_
     have n_ka := congrArg (fun v : World => v.heap[w.heap.size]?) hV_V5
     simp (maxDischargeDepth := 9) only [BK, not_false_eq_true, reduceCtorEq, ka, kp, kt, l_ka_wr, l_kp_wr, l_kt_wr, ne5, ne6, l_ka_V4, l_kp_V4, l_kt_V4, l_ka_W5, l_kp_W5, l_kt_W5] at n_ka
     have n_kp := congrArg (fun v : World => v.heap[W2.heap.size]?) hV_V5
     simp (maxDischargeDepth := 9) only [BK, not_false_eq_true, reduceCtorEq, ka, kp, kt, l_ka_wr, l_kp_wr, l_kt_wr, ne5, ne6, l_ka_V4, l_kp_V4, l_kt_V4, l_ka_W5, l_kp_W5, l_kt_W5] at n_kp
     have n_kt := congrArg (fun v : World => v.heap[W2.heap.size + 1]?) hV_V5
     simp (maxDischargeDepth := 9) only [BK, not_false_eq_true, reduceCtorEq, ka, kp, kt, l_ka_wr, l_kp_wr, l_kt_wr, ne5, ne6, l_ka_V4, l_kp_V4, l_kt_V4, l_ka_W5, l_kp_W5, l_kt_W5] at n_kt
     have n_F : Fr ((twoX W2.heap.size (W2.heap.size + 1))) O1 O2 wr V5 := nF hV_V5
     have n_A : AP V5 (.pointer q) r.2.2 O2 := nA hV_V5
     have z_V5 := Nat.le_of_eq (congrArg (fun v : World => v.heap.size) hV_V5).symm
     try simp only [SZ] at z_V5
     clear ka c_ka f_ka
     clear kp c_kp f_kp
     clear kt c_kt f_kt
     clear hV_V5
     clear hA
     have hA := n_A
     clear n_A
     clear hF
     have hF := n_F
     clear n_F
     have ka := n_ka; clear n_ka
     have c_ka := cells_of ka
     have f_ka := free_of ka
     have l_ka_V5 := lt_of ka
     have kp := n_kp; clear n_kp
     have c_kp := cells_of kp
     have f_kp := free_of kp
     have l_kp_V5 := lt_of kp
     have kt := n_kt; clear n_kt
     have c_kt := cells_of kt
     have f_kt := free_of kt
     have l_kt_V5 := lt_of kt
     refine (next_t (W2.heap.size + 1) w.heap.size st.ok st.p.table r t Ht.out _ hA kt ka o_kt o_ka ne6).mono ?_
     rintro e_W6 W6 ⟨rfl, O3, hT_W6, hf_W6⟩
     have q_ka := hf_W6.keep ka o_ka (by unfold oneX; omega)
     have q_kp := hf_W6.keep kp o_kp (by unfold oneX; omega)
     replace o_ka := hf_W6.not_own (lt_of ka) o_ka
     clear ka; have ka := q_ka; clear q_ka
     have c_ka := cells_of ka
     have f_ka := free_of ka
     have l_ka_W6 := lt_of ka
     replace o_kp := hf_W6.not_own (lt_of kp) o_kp
     clear kp; have kp := q_kp; clear q_kp
     have c_kp := cells_of kp
     have f_kp := free_of kp
     have l_kp_W6 := lt_of kp
     clear kt c_kt f_kt o_kt; have kt := hT_W6.blk; have o_kt := hT_W6.no
     have c_kt := cells_of kt
     have f_kt := free_of kt
     have l_kt_W6 := lt_of kt
     replace hF := hF.trans (hf_W6.mono (fun x h => Or.inr h))
     have z_W6 := hf_W6.size
     clear hA hf_W6; have hA := hT_W6.hA; clear hT_W6
     clear cd1 cd2
     go_wp2_with fail
     refine handed_gen fun V6 hV_V6 => ?_
     have n_ka := congrArg (fun v : World => v.heap[w.heap.size]?) hV_V6
     simp (maxDischargeDepth := 9) only [BK, not_false_eq_true, reduceCtorEq, ka, kp, kt, l_ka_wr, l_kp_wr, l_kt_wr, ne5, ne6, l_ka_V4, l_kp_V4, l_kt_V4, l_ka_W5, l_kp_W5, l_kt_W5, l_ka_V5, l_kp_V5, l_kt_V5, l_ka_W6, l_kp_W6, l_kt_W6] at n_ka
     have n_kp := congrArg (fun v : World => v.heap[W2.heap.size]?) hV_V6
     simp (maxDischargeDepth := 9) only [BK, not_false_eq_true, reduceCtorEq, ka, kp, kt, l_ka_wr, l_kp_wr, l_kt_wr, ne5, ne6, l_ka_V4, l_kp_V4, l_kt_V4, l_ka_W5, l_kp_W5, l_kt_W5, l_ka_V5, l_kp_V5, l_kt_V5, l_ka_W6, l_kp_W6, l_kt_W6] at n_kp
     have n_kt := congrArg (fun v : World => v.heap[W2.heap.size + 1]?) hV_V6
     simp (maxDischargeDepth := 9) only [BK, not_false_eq_true, reduceCtorEq, ka, kp, kt, l_ka_wr, l_kp_wr, l_kt_wr, ne5, ne6, l_ka_V4, l_kp_V4, l_kt_V4, l_ka_W5, l_kp_W5, l_kt_W5, l_ka_V5, l_kp_V5, l_kt_V5, l_ka_W6, l_kp_W6, l_kt_W6] at n_kt
     have n_F : Fr ((twoX W2.heap.size (W2.heap.size + 1))) O1 O3 wr V6 := nF hV_V6
     have n_A : AP V6 (.pointer q) ((⟨t.2.2, 0⟩ : Tb)).s O3 := nA hV_V6
     have z_V6 := Nat.le_of_eq (congrArg (fun v : World => v.heap.size) hV_V6).symm
     try simp only [SZ] at z_V6
     clear ka c_ka f_ka
     clear kp c_kp f_kp
     clear kt c_kt f_kt
     clear hV_V6
     clear hA
     have hA := n_A
     clear n_A
     clear hF
     have hF := n_F
     clear n_F
     have ka := n_ka; clear n_ka
     have c_ka := cells_of ka
     have f_ka := free_of ka
     have l_ka_V6 := lt_of ka
     have kp := n_kp; clear n_kp
     have c_kp := cells_of kp
     have f_kp := free_of kp
     have l_kp_V6 := lt_of kp
     have kt := n_kt; clear n_kt
     have c_kt := cells_of kt
     have f_kt := free_of kt
     have l_kt_V6 := lt_of kt
     have HF2 := Lib.hid (HF.out.trans_own hF hY)
     have hdoc2 := Lib.hid (hdoc.out.fr hF oD hX)
     have oD2 := hF.not_own (by have := HF.out.size; omega) oD
     go_roundg k
     case measure => omega
     case rel => exact ⟨i + 1, (⟨t.2.2, t.2.1, ⟨st.p.wave, st.p.marks, st.p.spots, t.1⟩, st.n⟩ : Bst), O3, by first | rfl | (rw [E3.out]; rfl), by omega, hA, HF2, kp, kt, ka, o_kp, o_kt, o_ka, oD2, hdoc2, Lib.hid (by exact Hb2.out)⟩
    ·
     obtain rfl : i = ds.length := by omega
     have hDlen : (docsM ds).length = ds.length := by unfold docsM; rw [List.length_map]
     have hb := Hb.out
     rw [List.drop_of_length_le (by omega)] at hb
     unfold bTable at hb
     obtain rfl := Option.some.inj hb
     have m1 : decide ((ds.length : Int) < (ds.length : Int)) = false := by simp
     have h3 := H3.out
     unfold bEnd at h3
     rw [ho2, if_pos rfl] at h3
     obtain ⟨t4, ht4⟩ : ∃ t, nextA true 0 (vMake st.s st.p) = t := ⟨_, rfl⟩
     rw [ht4] at h3
     dsimp only at h3
     obtain ⟨u, hu, h3⟩ := Option.map_eq_some_iff.1 h3
     rw [ho2] at kt
     have Hu := Lib.hid hu; have H3' := Lib.hid h3; have Ht4 := Lib.hid ht4
     have hok4 : t4.2.1 = true := congrArg (fun x => x.2.1) h3
     clear hb Hb hlt hk h3 hu ht4
     have hF := Fr.refl ((twoX W2.heap.size (W2.heap.size + 1))) O1 wr
     have c_ka := cells_of ka
     have f_ka := free_of ka
     have l_ka_wr := lt_of ka
     have c_kp := cells_of kp
     have f_kp := free_of kp
     have l_kp_wr := lt_of kp
     have c_kt := cells_of kt
     have f_kt := free_of kt
     have l_kt_wr := lt_of kt
     go_wp2_with fail
     refine calls_gen fun V4 hV_V4 => ?_
     have n_ka := congrArg (fun v : World => v.heap[w.heap.size]?) hV_V4
     simp (maxDischargeDepth := 9) only [BK, not_false_eq_true, reduceCtorEq, ka, kp, kt, l_ka_wr, l_kp_wr, l_kt_wr, ne5, ne6] at n_ka
     have n_kp := congrArg (fun v : World => v.heap[W2.heap.size]?) hV_V4
     simp (maxDischargeDepth := 9) only [BK, not_false_eq_true, reduceCtorEq, ka, kp, kt, l_ka_wr, l_kp_wr, l_kt_wr, ne5, ne6] at n_kp
     have n_kt := congrArg (fun v : World => v.heap[W2.heap.size + 1]?) hV_V4
     simp (maxDischargeDepth := 9) only [BK, not_false_eq_true, reduceCtorEq, ka, kp, kt, l_ka_wr, l_kp_wr, l_kt_wr, ne5, ne6] at n_kt
     have n_F : Fr ((twoX W2.heap.size (W2.heap.size + 1))) O1 O1 wr V4 := nF hV_V4
     have n_A : AP V4 (.pointer q) st.s O1 := nA hV_V4
     have z_V4 := Nat.le_of_eq (congrArg (fun v : World => v.heap.size) hV_V4).symm
     try simp only [SZ] at z_V4
     clear ka c_ka f_ka
     clear kp c_kp f_kp
     clear kt c_kt f_kt
     clear hV_V4
     clear hA
     have hA := n_A
     clear n_A
     clear hF
     have hF := n_F
     clear n_F
     have ka := n_ka; clear n_ka
     have c_ka := cells_of ka
     have f_ka := free_of ka
     have l_ka_V4 := lt_of ka
     have kp := n_kp; clear n_kp
     have c_kp := cells_of kp
     have f_kp := free_of kp
     have l_kp_V4 := lt_of kp
     have kt := n_kt; clear n_kt
     have c_kt := cells_of kt
     have f_kt := free_of kt
     have l_kt_V4 := lt_of kt
     refine (vMake_calls st.p _ hA).mono ?_
     rintro e_W5 W5 ⟨rfl, O2, hA_W5, hf_W5⟩
     have q_ka := hf_W5.keep ka o_ka (fun h => h)
     have q_kp := hf_W5.keep kp o_kp (fun h => h)
     have q_kt := hf_W5.keep kt o_kt (fun h => h)
     replace o_ka := hf_W5.not_own (lt_of ka) o_ka
     clear ka; have ka := q_ka; clear q_ka
     have c_ka := cells_of ka
     have f_ka := free_of ka
     have l_ka_W5 := lt_of ka
     replace o_kp := hf_W5.not_own (lt_of kp) o_kp
     clear kp; have kp := q_kp; clear q_kp
     have c_kp := cells_of kp
     have f_kp := free_of kp
     have l_kp_W5 := lt_of kp
     replace o_kt := hf_W5.not_own (lt_of kt) o_kt
     clear kt; have kt := q_kt; clear q_kt
     have c_kt := cells_of kt
     have f_kt := free_of kt
     have l_kt_W5 := lt_of kt
     replace hF := hF.trans hf_W5.widen
     have z_W5 := hf_W5.size
     clear hA hf_W5; have hA := hA_W5; clear hA_W5
     go_wp2_with fail
     refine calls_gen fun V5 hV_V5 => ?_
     have n_ka := congrArg (fun v : World => v.heap[w.heap.size]?) hV_V5
     simp (maxDischargeDepth := 9) only [BK, not_false_eq_true, reduceCtorEq, ka, kp, kt, l_ka_wr, l_kp_wr, l_kt_wr, ne5, ne6, l_ka_V4, l_kp_V4, l_kt_V4, l_ka_W5, l_kp_W5, l_kt_W5] at n_ka
     have n_kp := congrArg (fun v : World => v.heap[W2.heap.size]?) hV_V5
     simp (maxDischargeDepth := 9) only [BK, not_false_eq_true, reduceCtorEq, ka, kp, kt, l_ka_wr, l_kp_wr, l_kt_wr, ne5, ne6, l_ka_V4, l_kp_V4, l_kt_V4, l_ka_W5, l_kp_W5, l_kt_W5] at n_kp
     have n_kt := congrArg (fun v : World => v.heap[W2.heap.size + 1]?) hV_V5
     simp (maxDischargeDepth := 9) only [BK, not_false_eq_true, reduceCtorEq, ka, kp, kt, l_ka_wr, l_kp_wr, l_kt_wr, ne5, ne6, l_ka_V4, l_kp_V4, l_kt_V4, l_ka_W5, l_kp_W5, l_kt_W5] at n_kt
     have n_F : Fr ((twoX W2.heap.size (W2.heap.size + 1))) O1 O2 wr V5 := nF hV_V5
     have n_A : AP V5 (.pointer q) ((vMake st.s st.p).2.2) O2 := nA hV_V5
     have z_V5 := Nat.le_of_eq (congrArg (fun v : World => v.heap.size) hV_V5).symm
     try simp only [SZ] at z_V5
     clear ka c_ka f_ka
     clear kp c_kp f_kp
     clear kt c_kt f_kt
     clear hV_V5
     clear hA
     have hA := n_A
     clear n_A
     clear hF
     have hF := n_F
     clear n_F
     have ka := n_ka; clear n_ka
     have c_ka := cells_of ka
     have f_ka := free_of ka
     have l_ka_V5 := lt_of ka
     have kp := n_kp; clear n_kp
     have c_kp := cells_of kp
     have f_kp := free_of kp
     have l_kp_V5 := lt_of kp
     have kt := n_kt; clear n_kt
     have c_kt := cells_of kt
     have f_kt := free_of kt
     have l_kt_V5 := lt_of kt
     refine (next_t (W2.heap.size + 1) w.heap.size true 0 (vMake st.s st.p) t4 Ht4.out _ hA kt ka o_kt o_ka ne6).mono ?_
     rintro e_W6 W6 ⟨rfl, O3, hT_W6, hf_W6⟩
     have q_ka := hf_W6.keep ka o_ka (by unfold oneX; omega)
     have q_kp := hf_W6.keep kp o_kp (by unfold oneX; omega)
     replace o_ka := hf_W6.not_own (lt_of ka) o_ka
     clear ka; have ka := q_ka; clear q_ka
     have c_ka := cells_of ka
     have f_ka := free_of ka
     have l_ka_W6 := lt_of ka
     replace o_kp := hf_W6.not_own (lt_of kp) o_kp
     clear kp; have kp := q_kp; clear q_kp
     have c_kp := cells_of kp
     have f_kp := free_of kp
     have l_kp_W6 := lt_of kp
     clear kt c_kt f_kt o_kt; have kt := hT_W6.blk; have o_kt := hT_W6.no
     have c_kt := cells_of kt
     have f_kt := free_of kt
     have l_kt_W6 := lt_of kt
     replace hF := hF.trans (hf_W6.mono (fun x h => Or.inr h))
     have z_W6 := hf_W6.size
     clear hA hf_W6; have hA := hT_W6.hA; clear hT_W6
     rw [hok4] at kt
     go_wp2_with fail
     refine wp_gen fun V6 hV_V6 => ?_
     have n_ka := congrArg (fun v : World => v.heap[w.heap.size]?) hV_V6
     simp (maxDischargeDepth := 9) only [BK, not_false_eq_true, reduceCtorEq, ka, kp, kt, l_ka_wr, l_kp_wr, l_kt_wr, ne5, ne6, l_ka_V4, l_kp_V4, l_kt_V4, l_ka_W5, l_kp_W5, l_kt_W5, l_ka_V5, l_kp_V5, l_kt_V5, l_ka_W6, l_kp_W6, l_kt_W6] at n_ka
     have n_kp := congrArg (fun v : World => v.heap[W2.heap.size]?) hV_V6
     simp (maxDischargeDepth := 9) only [BK, not_false_eq_true, reduceCtorEq, ka, kp, kt, l_ka_wr, l_kp_wr, l_kt_wr, ne5, ne6, l_ka_V4, l_kp_V4, l_kt_V4, l_ka_W5, l_kp_W5, l_kt_W5, l_ka_V5, l_kp_V5, l_kt_V5, l_ka_W6, l_kp_W6, l_kt_W6] at n_kp
     have n_kt := congrArg (fun v : World => v.heap[W2.heap.size + 1]?) hV_V6
     simp (maxDischargeDepth := 9) only [BK, not_false_eq_true, reduceCtorEq, ka, kp, kt, l_ka_wr, l_kp_wr, l_kt_wr, ne5, ne6, l_ka_V4, l_kp_V4, l_kt_V4, l_ka_W5, l_kp_W5, l_kt_W5, l_ka_V5, l_kp_V5, l_kt_V5, l_ka_W6, l_kp_W6, l_kt_W6] at n_kt
     have n_kl := congrArg (fun v : World => v.heap[W6.heap.size]?) hV_V6
     simp (maxDischargeDepth := 9) only [BK, not_false_eq_true, reduceCtorEq, ka, kp, kt, l_ka_wr, l_kp_wr, l_kt_wr, ne5, ne6, l_ka_V4, l_kp_V4, l_kt_V4, l_ka_W5, l_kp_W5, l_kt_W5, l_ka_V5, l_kp_V5, l_kt_V5, l_ka_W6, l_kp_W6, l_kt_W6] at n_kl
     have o_kl : ¬ O3 (W6.heap.size) := by first | exact hA.new (Nat.le_refl _) | exact hA.new (by omega)
     have n_F : Fr ((twoX W2.heap.size (W2.heap.size + 1))) O1 O3 wr V6 := nF hV_V6
     have n_A : AP V6 (.pointer q) ((⟨t4.2.2, 0⟩ : Tb)).s O3 := nA hV_V6
     have z_V6 := Nat.le_of_eq (congrArg (fun v : World => v.heap.size) hV_V6).symm
     try simp only [SZ] at z_V6
     clear ka c_ka f_ka
     clear kp c_kp f_kp
     clear kt c_kt f_kt
     clear hV_V6
     clear hA
     have hA := n_A
     clear n_A
     clear hF
     have hF := n_F
     clear n_F
     have ka := n_ka; clear n_ka
     have c_ka := cells_of ka
     have f_ka := free_of ka
     have l_ka_V6 := lt_of ka
     have kp := n_kp; clear n_kp
     have c_kp := cells_of kp
     have f_kp := free_of kp
     have l_kp_V6 := lt_of kp
     have kt := n_kt; clear n_kt
     have c_kt := cells_of kt
     have f_kt := free_of kt
     have l_kt_V6 := lt_of kt
     have kl := n_kl; clear n_kl
     have c_kl := cells_of kl
     have f_kl := free_of kl
     have l_kl_V6 := lt_of kl
     have HF6 := Lib.hid (HF.out.trans_own hF hY)
     have HA6 := Lib.hid hA
     have ka2 := ka; have kt2 := kt; have o_ka2 := o_ka; have o_kt2 := o_kt
     clear hA hF HF kp c_kp f_kp o_kp ka c_ka f_ka kt c_kt f_kt o_ka o_kt c_kl f_kl
     go_loopw [171] (fun y w3 => ∃ i : Nat, i ≤ 4 ∧ y = .int .i64 i ∧ ∃ O', AP w3 (.pointer q) ([st.p.wave, st.p.marks, st.p.spots, st.p.table].take i |>.foldl dropP t4.2.2) O' ∧ Fr noX O O' w w3 ∧ w3.heap[W6.heap.size]? = some (.cells #[.int .i64 st.p.wave, .int .i64 st.p.marks, .int .i64 st.p.spots, .int .i64 st.p.table] 3 (0, 0)) ∧ w3.heap[w.heap.size]? = some (.cells #[.pointer q] 25 (0, 0)) ∧ w3.heap[W2.heap.size + 1]? = some (.cells #[.bool true] 4 (0, 0)) ∧ ¬ O' W6.heap.size ∧ ¬ O' w.heap.size ∧ ¬ O' (W2.heap.size + 1)) (fun y _ => 4 - (intOf y).toNat)
     case atStart => exact ⟨0, by omega, rfl, _, HA6.out, HF6.out, kl, ka2, kt2, o_kl, o_ka2, o_kt2⟩
     case round =>
      clear HA6 HF6 kl ka2 kt2 o_kl o_ka2 o_kt2
      obtain ⟨i, hi, rfl, O', hA', hF', kl, ka2, kt2, o_kl, o_ka2, o_kt2⟩ := hrel
      have c_kl := cells_of kl
      rcases (show i = 0 ∨ i = 1 ∨ i = 2 ∨ i = 3 ∨ i = 4 by omega) with rfl | rfl | rfl | rfl | rfl
      ·
       have HA := Lib.hid hA'; have HF5 := Lib.hid hF'; clear hA' hF'
       by_cases hz : st.p.wave = 0
       ·
        have z1 : (st.p.wave != 0) = false := by simp [hz]
        have hd : Hid ((dropP t4.2.2 st.p.wave) = t4.2.2) := Lib.hid (by show dropP _ _ = _; unfold dropP; rw [if_pos hz])
        clear hz
        go_wp2_with fail
        go_roundw
        case rel => exact ⟨1, by omega, rfl, O', by show AP wr (.pointer q) (dropP t4.2.2 st.p.wave) O'; rw [hd.out]; exact HA.out, HF5.out, kl, ka2, kt2, o_kl, o_ka2, o_kt2⟩
        case measure => simp [intOf]
       ·
        have z1 : (st.p.wave != 0) = true := by simp [hz]
        have hd : Hid ((dropP t4.2.2 st.p.wave) = (t4.2.2).drop st.p.wave) := Lib.hid (by show dropP _ _ = _; unfold dropP; rw [if_neg hz])
        clear hz
        have c_ka2 := cells_of ka2
        go_wp2_with fail
        refine (drop_calls _ _ HA.out).mono ?_
        rintro e1 w1 ⟨rfl, O3, hA1, hf1⟩
        go_wp2_with fail
        go_roundw
        case rel => exact ⟨1, by omega, rfl, O3, by show AP w1 (.pointer q) (dropP t4.2.2 st.p.wave) O3; rw [hd.out]; exact hA1, HF5.out.trans hf1.widen, hf1.keep kl o_kl (fun h => h), hf1.keep ka2 o_ka2 (fun h => h), hf1.keep kt2 o_kt2 (fun h => h), hf1.not_own (lt_of kl) o_kl, hf1.not_own (lt_of ka2) o_ka2, hf1.not_own (lt_of kt2) o_kt2⟩
        case measure => simp [intOf]
      ·
       have HA := Lib.hid hA'; have HF5 := Lib.hid hF'; clear hA' hF'
       by_cases hz : st.p.marks = 0
       ·
        have z1 : (st.p.marks != 0) = false := by simp [hz]
        have hd : Hid ((dropP (dropP t4.2.2 st.p.wave) st.p.marks) = (dropP t4.2.2 st.p.wave)) := Lib.hid (by show dropP _ _ = _; unfold dropP; rw [if_pos hz])
        clear hz
        go_wp2_with fail
        go_roundw
        case rel => exact ⟨2, by omega, rfl, O', by show AP wr (.pointer q) (dropP (dropP t4.2.2 st.p.wave) st.p.marks) O'; rw [hd.out]; exact HA.out, HF5.out, kl, ka2, kt2, o_kl, o_ka2, o_kt2⟩
        case measure => simp [intOf]
       ·
        have z1 : (st.p.marks != 0) = true := by simp [hz]
        have hd : Hid ((dropP (dropP t4.2.2 st.p.wave) st.p.marks) = ((dropP t4.2.2 st.p.wave)).drop st.p.marks) := Lib.hid (by show dropP _ _ = _; unfold dropP; rw [if_neg hz])
        clear hz
        have c_ka2 := cells_of ka2
        go_wp2_with fail
        refine (drop_calls _ _ HA.out).mono ?_
        rintro e1 w1 ⟨rfl, O3, hA1, hf1⟩
        go_wp2_with fail
        go_roundw
        case rel => exact ⟨2, by omega, rfl, O3, by show AP w1 (.pointer q) (dropP (dropP t4.2.2 st.p.wave) st.p.marks) O3; rw [hd.out]; exact hA1, HF5.out.trans hf1.widen, hf1.keep kl o_kl (fun h => h), hf1.keep ka2 o_ka2 (fun h => h), hf1.keep kt2 o_kt2 (fun h => h), hf1.not_own (lt_of kl) o_kl, hf1.not_own (lt_of ka2) o_ka2, hf1.not_own (lt_of kt2) o_kt2⟩
        case measure => simp [intOf]
      ·
       have HA := Lib.hid hA'; have HF5 := Lib.hid hF'; clear hA' hF'
       by_cases hz : st.p.spots = 0
       ·
        have z1 : (st.p.spots != 0) = false := by simp [hz]
        have hd : Hid ((dropP (dropP (dropP t4.2.2 st.p.wave) st.p.marks) st.p.spots) = (dropP (dropP t4.2.2 st.p.wave) st.p.marks)) := Lib.hid (by show dropP _ _ = _; unfold dropP; rw [if_pos hz])
        clear hz
        go_wp2_with fail
        go_roundw
        case rel => exact ⟨3, by omega, rfl, O', by show AP wr (.pointer q) (dropP (dropP (dropP t4.2.2 st.p.wave) st.p.marks) st.p.spots) O'; rw [hd.out]; exact HA.out, HF5.out, kl, ka2, kt2, o_kl, o_ka2, o_kt2⟩
        case measure => simp [intOf]
       ·
        have z1 : (st.p.spots != 0) = true := by simp [hz]
        have hd : Hid ((dropP (dropP (dropP t4.2.2 st.p.wave) st.p.marks) st.p.spots) = ((dropP (dropP t4.2.2 st.p.wave) st.p.marks)).drop st.p.spots) := Lib.hid (by show dropP _ _ = _; unfold dropP; rw [if_neg hz])
        clear hz
        have c_ka2 := cells_of ka2
        go_wp2_with fail
        refine (drop_calls _ _ HA.out).mono ?_
        rintro e1 w1 ⟨rfl, O3, hA1, hf1⟩
        go_wp2_with fail
        go_roundw
        case rel => exact ⟨3, by omega, rfl, O3, by show AP w1 (.pointer q) (dropP (dropP (dropP t4.2.2 st.p.wave) st.p.marks) st.p.spots) O3; rw [hd.out]; exact hA1, HF5.out.trans hf1.widen, hf1.keep kl o_kl (fun h => h), hf1.keep ka2 o_ka2 (fun h => h), hf1.keep kt2 o_kt2 (fun h => h), hf1.not_own (lt_of kl) o_kl, hf1.not_own (lt_of ka2) o_ka2, hf1.not_own (lt_of kt2) o_kt2⟩
        case measure => simp [intOf]
      ·
       have HA := Lib.hid hA'; have HF5 := Lib.hid hF'; clear hA' hF'
       by_cases hz : st.p.table = 0
       ·
        have z1 : (st.p.table != 0) = false := by simp [hz]
        have hd : Hid ((dropP (dropP (dropP (dropP t4.2.2 st.p.wave) st.p.marks) st.p.spots) st.p.table) = (dropP (dropP (dropP t4.2.2 st.p.wave) st.p.marks) st.p.spots)) := Lib.hid (by show dropP _ _ = _; unfold dropP; rw [if_pos hz])
        clear hz
        go_wp2_with fail
        go_roundw
        case rel => exact ⟨4, by omega, rfl, O', by show AP wr (.pointer q) (dropP (dropP (dropP (dropP t4.2.2 st.p.wave) st.p.marks) st.p.spots) st.p.table) O'; rw [hd.out]; exact HA.out, HF5.out, kl, ka2, kt2, o_kl, o_ka2, o_kt2⟩
        case measure => simp [intOf]
       ·
        have z1 : (st.p.table != 0) = true := by simp [hz]
        have hd : Hid ((dropP (dropP (dropP (dropP t4.2.2 st.p.wave) st.p.marks) st.p.spots) st.p.table) = ((dropP (dropP (dropP t4.2.2 st.p.wave) st.p.marks) st.p.spots)).drop st.p.table) := Lib.hid (by show dropP _ _ = _; unfold dropP; rw [if_neg hz])
        clear hz
        have c_ka2 := cells_of ka2
        go_wp2_with fail
        refine (drop_calls _ _ HA.out).mono ?_
        rintro e1 w1 ⟨rfl, O3, hA1, hf1⟩
        go_wp2_with fail
        go_roundw
        case rel => exact ⟨4, by omega, rfl, O3, by show AP w1 (.pointer q) (dropP (dropP (dropP (dropP t4.2.2 st.p.wave) st.p.marks) st.p.spots) st.p.table) O3; rw [hd.out]; exact hA1, HF5.out.trans hf1.widen, hf1.keep kl o_kl (fun h => h), hf1.keep ka2 o_ka2 (fun h => h), hf1.keep kt2 o_kt2 (fun h => h), hf1.not_own (lt_of kl) o_kl, hf1.not_own (lt_of ka2) o_ka2, hf1.not_own (lt_of kt2) o_kt2⟩
        case measure => simp [intOf]
      ·
       have HA := Lib.hid hA'; have HF5 := Lib.hid hF'; clear hA' hF' c_kl
       have hA7 : AP wr (.pointer q) (dropP (dropP (dropP (dropP t4.2.2 st.p.wave) st.p.marks) st.p.spots) st.p.table) O' := HA.out
       have HA7 := Lib.hid hA7; clear hA7 HA
       have c_ka2 := cells_of ka2
       have hlast : root = t4.1 ∧ s' = u.2 := by
        have h3 := H3'.out
        rw [hok4] at h3
        simp only [Bool.true_eq_false, false_and, if_false, Prod.mk.injEq] at h3
        exact ⟨h3.1.symm, h3.2.2.symm⟩
       obtain ⟨rfl, rfl⟩ := hlast
       go_wp2_with fail
       refine (work_calls 1073741824 u Hu.out _ HA7.out).mono ?_
       rintro e8 W8 ⟨rfl, O8, hA8, hf8⟩
       have kt8 := hf8.keep kt2 o_kt2 (fun h => h)
       have c_kt8 := cells_of kt8
       have HA8 := Lib.hid hA8
       have HF8 := Lib.hid (HF5.out.trans hf8)
       clear hA8 hf8
       have hA := HA8.out
       clear c_kt8 c_ka2
       have hF := Fr.refl (noX) O8 W8
       have c_kt8 := cells_of kt8
       have f_kt8 := free_of kt8
       have l_kt8_W8 := lt_of kt8
       go_wp2_with fail
       refine wp_gen fun V9 hV_V9 => ?_
       have n_kt8 := congrArg (fun v : World => v.heap[W2.heap.size + 1]?) hV_V9
       simp (maxDischargeDepth := 9) only [BK, not_false_eq_true, reduceCtorEq, kt8, l_kt8_W8] at n_kt8
       have n_F : Fr (noX) O8 O8 W8 V9 := nF hV_V9
       have n_A : AP V9 (.pointer q) u.2 O8 := nA hV_V9
       have z_V9 := Nat.le_of_eq (congrArg (fun v : World => v.heap.size) hV_V9).symm
       try simp only [SZ] at z_V9
       clear kt8 c_kt8 f_kt8
       clear hV_V9
       clear hA
       have hA := n_A
       clear n_A
       clear hF
       have hF := n_F
       clear n_F
       have kt8 := n_kt8; clear n_kt8
       have c_kt8 := cells_of kt8
       have f_kt8 := free_of kt8
       have l_kt8_V9 := lt_of kt8
       refine wp_region_noPanic ?_
       refine wp_region_held_drew (S := fun v => (∀ o, v.cell? ⟨W2.heap.size + 1, o, none⟩ = V9.cell? ⟨W2.heap.size + 1, o, none⟩) ∧ (V9.heap.size ≤ v.heap.size) ∧ AP v (.pointer q) u.2 O8) (by kernel_rfl) ⟨(fun _ => rfl), (Nat.le_refl _), hA.drew⟩ (fun hHeld => ?_)
       generalize hV_V9d : V9.drew = V9d at hHeld ⊢
       have n_kt8 : V9d.heap[W2.heap.size + 1]? = V9.heap[W2.heap.size + 1]? := by rw [← hV_V9d]; rfl
       have d_kt8 := n_kt8.trans kt8
       clear n_kt8 c_kt8 f_kt8
       have n_A : AP V9d (.pointer q) u.2 O8 := by rw [← hV_V9d]; exact hA.drew
       clear hA; have hA := n_A; clear n_A
       have n_F : Fr (noX) O8 O8 W8 V9d := by rw [← hV_V9d]; exact hF.drew
       clear hF; have hF := n_F; clear n_F
       have z_V9d : V9.heap.size ≤ V9d.heap.size := by rw [← hV_V9d]; exact Nat.le_refl _
       have v_kt8 := cells_of kt8
       clear kt8; have kt8 := d_kt8; clear d_kt8
       have c_kt8 := cells_of kt8
       have f_kt8 := free_of kt8
       have l_kt8_V9d := lt_of kt8
       clear hV_V9d
       refine ty (i := 0) (v := ?_) rfl hHeld ?_ ?_
       rotate_left
       focus (intro w hSw; go_simp; (try simp only [IntWalk.i64_left]); try (with_reducible rfl))
       try simp only [PT]
       refine ty (i := 1) (v := ?_) rfl hHeld ?_ ?_
       rotate_left
       focus (intro w hSw; go_simp; (try simp only [IntWalk.i64_left]); try (with_reducible rfl))
       try simp only [PT]
       refine wpAnyH_ready (rs := [2]) (by kernel_rfl) (by simp) ?_
       refine ready_at rfl (fun K hK => ?_) AllReadyH.nil
       go_simp
       refine hK.out _ _ hHeld (fun hHeld => ?_)
       clear hK K
       try simp only [PT]
       refine wpAnyH_ready (rs := [3]) (by kernel_rfl) (by simp) ?_
       refine ready_at rfl (fun K hK => ?_) AllReadyH.nil
       go_simp
       refine hK.out _ _ hHeld (fun hHeld => ?_)
       clear hK K
       try simp only [PT]
       refine wpAnyH_done (by kernel_rfl) ?_ _
       refine NoPanic.normal ?_
       have HFF := Lib.hid (HF8.out.trans hF)
       have HAA := Lib.hid hA
       clear hF hA
       go_wp2_with fail
       go_ret2
       exact ⟨rfl, O8, HAA.out, HFF.out⟩
end Go.Proofs.Ytkgabbenmoocgaa
