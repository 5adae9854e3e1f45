/- Part 8 of what VersionNone needs: the walks of the program's functions, and plain facts. -/
import Derived.Test.YtpdpcgmkpgfblaaGreatVersionNoneM7
import Derived.Sort.LotA
import Derived.Test.YtpdpcgmkpgfblaaGreatProg
import Derived.Sort.Grow
/- The document's own: the symbols of the rows. -/
namespace Go.Proofs.YtpdpcgmkpgfblaaGreat
set_option linter.unusedSimpArgs false
set_option linter.unusedVariables false
set_option linter.unnecessarySimpa false
open Go.RowKit
attribute [local go_sem ↓] Go.wp_at_zero Go.wp_at_succ
attribute [local go_sem] str_len
theorem sorted_calls (v : Value) (ts : List (List UInt8)) (hn : ts.length ≤ 50000) (w : World) (h : Rk w 1 v ts.length (ts.map strOf)) :
    Calls Tryz.prog 13 #[v] w fun e w' => ∃ v', e = .returned v' ∧ w'.ownsRow w.heap.size 36 2 v' (refSorted ts).length (rowCells (refSorted ts)) ∧ Below w.heap.size w w' := by
  unfold refSorted
  cases hrt : refRight ts with
  | true => rw [if_pos rfl]; exact sorted_walk v ts hrt w h
  | false =>
    rw [if_neg (by decide)]
    have HK := Lib.hid h
    obtain ⟨h1, A, cap, rfl, h2⟩ := h
    clear h1 h2
    go_enter Tryz.func13, Tryz.ntmps13
    go_wp2_with fail
    refine calls_gen fun V0 hV_V0 => ?_
    have n_B : Below w.heap.size w V0 := nB hV_V0
    have z_V0 := Nat.le_of_eq (congrArg (fun v : World => v.heap.size) hV_V0).symm
    try simp only [SZ] at z_V0
    clear hV_V0
    skip
    have hB := n_B
    clear n_B
    refine (rright_calls _ ts hn _ (HK.out.below hB)).mono ?_
    rintro e_W0 W0 ⟨rfl, hb_W0⟩
    replace hB := below_step hB hb_W0
    have z_W0 := hb_W0.size
    clear hb_W0
    rw [hrt]
    go_wp2_with fail
    go_ret
    exact ⟨_, rfl, own_nil _ _ _ _, hB⟩
def intCells (l : List Int) : List Value := l.map fun x => .int .i64 x
theorem step_id (j n : Nat) (h : j ≤ n) (hn : n ≤ 50000) : wrap64 (j : Int) = (j : Int) := IntWalk.wrap64_in _ (by omega)
set_option maxRecDepth 100000 in
set_option maxHeartbeats 4000000 in
theorem symbols_calls (v : Value) (ts : List (List UInt8)) (hn : ts.length ≤ 50000) (hn2 : ∀ t, t ∈ ts → t.length ≤ 50000) (w : World) (h : Rk w 1 v ts.length (ts.map strOf)) :
    Calls Tryz.prog 36 #[v] w fun e w' => ∃ v', e = .returned v' ∧ w'.ownsRow w.heap.size 3 1 v' (refSorted ts).length (intCells ((refSorted ts).map (symOf ts))) ∧ Below w.heap.size w w' := by
  obtain ⟨R, hR⟩ : ∃ R, R = refSorted ts := ⟨_, rfl⟩
  rw [← hR]
  have HK := Lib.hid h
  obtain ⟨h1, A, cap, rfl, h2⟩ := h
  have hval : ∀ x, x ∈ R → ∃ t, ts[x.1]? = some t ∧ x.2 ≤ t.length := fun x hx => sorted_valid (hR ▸ hx)
  have hsm : R.length ≤ 500 := by rw [hR]; exact sorted_small ts
  have Hval := Lib.hid hval; have HR := Lib.hid hR
  clear h1 h2 hval hR
  go_enter Tryz.func36, Tryz.ntmps36
  go_wp2_with fail
  refine calls_gen fun V0 hV_V0 => ?_
  have n_B : Below w.heap.size w V0 := nB hV_V0
  have z_V0 := Nat.le_of_eq (congrArg (fun v : World => v.heap.size) hV_V0).symm
  try simp only [SZ] at z_V0
  clear hV_V0
  skip
  have hB := n_B
  clear n_B
  refine (sorted_calls _ ts hn _ (HK.out.below hB)).mono ?_
  rintro e1 W1 ⟨v1, rfl, hown1, hb1⟩
  have hB1 := below_step hB hb1
  rw [← HR.out] at hown1
  obtain ⟨-, A1, c1, rfl, hx1⟩ := Rx.of_own hown1
  have HX := Lib.hid (Rk.of_own hown1); have HB1 := Lib.hid hB1
  have hsz1 := hB1.size
  clear hown1 hb1 hB hB1 hx1
  go_wp2_with fail
  go_loopg [4, 5] R.length (fun k p q wr => ∃ i : Nat, q = .int .i64 (i : Int) ∧ i + k = R.length ∧ Hid (wr.ownsRow W1.heap.size 3 1 p i (intCells ((R.take i).map (symOf ts)))) ∧ Hid (Below W1.heap.size W1 wr))
  case atStart => exact ⟨0, rfl, by omega, Lib.hid (own_nil _ _ _ _), Lib.hid (Below.refl _ _)⟩
  case round =>
    obtain ⟨i, rfl, hk, Hown, HB⟩ := hrel
    by_cases hlt : i < R.length
    · obtain ⟨k, rfl⟩ : ∃ k, gk = k + 1 := ⟨gk - 1, by omega⟩
      obtain ⟨x, hx⟩ := at_some hlt
      obtain ⟨t, ht, hxt⟩ := Hval.out x (List.mem_of_getElem? hx)
      obtain ⟨-, A', cap', hv, h2⟩ := HX.out
      obtain ⟨g1, cs1, T1, rfl, kg1', hcs1⟩ := h2 (by omega)
      have kg1 := keep_blk HB.out kg1'
      have w1a := cells_of kg1'
      have w1l := lt_of kg1'
      obtain ⟨rfl, -, rfl⟩ := Value.slice.inj hv
      have c1a : cs1[i * 2]? = some (.int .i64 (x.1 : Int)) := (hcs1 _ (by omega)).trans (rowCells_at hx).1
      have c1b : cs1[i * 2 + 1]? = some (.int .i64 (x.2 : Int)) := (hcs1 _ (by omega)).trans (rowCells_at hx).2
      clear h2 hv hcs1
      have htake : Hid (intCells ((R.take (i + 1)).map (symOf ts)) = intCells ((R.take i).map (symOf ts)) ++ [.int .i64 (symOf ts x)]) := Lib.hid (by
        unfold intCells
        rw [List.take_succ_eq_append_getElem hlt, List.map_append, List.map_append, (List.getElem_eq_iff hlt).2 hx]; rfl)
      have n1 : decide ((i : Int) < (R.length : Int)) = true := by simpa using hlt
      have n2 : (i : Int) < (R.length : Int) := by omega
      have E3 := Lib.hid (step_wrap i 500 (by omega) (by omega))
      have hw1 := HB.out.size
      by_cases h0 : x.2 = 0
      · have hs : Hid (symOf ts x = 0) := Lib.hid (by unfold symOf; rw [if_pos h0])
        have d0 : ((x.2 : Int) == 0) = true := by rw [h0]; rfl
        clear h0 hxt
        have c_kg1 := cells_of kg1
        have f_kg1 := free_of kg1
        have l_kg1_wr := lt_of kg1
        go_wp2_with (at_builtin; refine wpList_push _ (by rfl) _ _ 72 (by rfl) (W1.heap.size) 3 (.int .i64 0) 1 8 Tryz.underlying72 (by kernel_rfl) (by rfl) (by omega) _ _ _ (by rfl) Hown.out _ (by rfl) (by rfl) (by simp [Value.oneCell']) (by unfold maxLen; omega) (by omega) (by omega) ?_; intro g_W c_W W5 hown_W hlow_W hlt_W)
        go_wp2_with fail
        go_roundg k
        case measure => omega
        case rel => exact ⟨i + 1, by first | rfl | (rw [E3.out]; rfl), by omega, Lib.hid (by rw [htake.out, hs.out]; exact hown_W), Lib.hid (low_step HB.out (Nat.le_refl _) hlow_W)⟩
      · obtain ⟨j, hj⟩ : ∃ j : Nat, x.2 = j + 1 := ⟨x.2 - 1, by omega⟩
        obtain ⟨b, hb⟩ := at_some (show j < t.length by omega)
        have htl := hn2 t (List.mem_of_getElem? ht)
        have hs : Hid (symOf ts x = (b.toNat : Int) + 1) := Lib.hid (by unfold symOf; rw [if_neg h0, getD_at ht, hj]; simp [List.getD, hb])
        have d0 : ((x.2 : Int) == 0) = false := by rw [beq_eq_false_iff_ne]; omega
        obtain ⟨hd, -⟩ := List.getElem?_eq_some_iff.1 ht
        obtain ⟨-, A2, cap2, hv2, h3⟩ := HK.out.below HB1.out
        obtain ⟨g2, cs2, T2, rfl, kg2', hcs2⟩ := h3 (by omega)
        have kg2 := keep_blk HB.out kg2'
        have w2a := cells_of kg2'
        have w2l := lt_of kg2'
        obtain ⟨rfl, -, rfl⟩ := Value.slice.inj hv2
        have c2a : cs2[x.1]? = some (strOf t) := by rw [hcs2 _ (by omega), List.getElem?_map, ht]; rfl
        have n3 : (x.1 : Int) < (ts.length : Int) := by omega
        have hix := str_index t j b hb
        have e6 : Hid (wrap64 ((x.2 : Int) - 1) = (j : Int)) := Lib.hid (by rw [hj, IntWalk.wrap64_in _ (by omega)]; omega)
        have hb8 := b.toNat_lt
        have e7 : wrap64 ((b.toNat : Int) + 1) = (b.toNat : Int) + 1 := IntWalk.wrap64_in _ (by omega)
        have E7 := Lib.hid e7; clear e7
        have hxj : (x.2 : Int) = (j : Int) + 1 := by omega
        rw [hxj] at c1b d0
        have e9 : wrap64 (j : Int) = (j : Int) := step_id j t.length (by omega) (by omega)
        have E9 := Lib.hid e9; clear e9
        have E10 := Lib.hid (step_id b.toNat 256 (by omega) (by omega))
        have e8 : wrap64 ((j : Int) + 1 - 1) = (j : Int) := by rw [show (j : Int) + 1 - 1 = (j : Int) by omega]; exact step_id j t.length (by omega) (by omega)
        clear h0 hxt h3 hv2 hcs2 hb e6 hxj
        have c_kg1 := cells_of kg1
        have f_kg1 := free_of kg1
        have l_kg1_wr := lt_of kg1
        have c_kg2 := cells_of kg2
        have f_kg2 := free_of kg2
        have l_kg2_wr := lt_of kg2
        go_wp2_with fail
        refine wp_region_noPanic ?_
        refine wp_region_held_drew (S := fun v => Below W1.heap.size W1 v ∧ (W1.heap.size ≤ v.heap.size) ∧ ∀ b o, b < W1.heap.size → v.cell? ⟨b, o, none⟩ = W1.cell? ⟨b, o, none⟩) (by kernel_rfl) (HeldB.of HB.out.drew) (fun hHeld => ?_)
        have hB_d : Below wr.heap.size wr wr.drew := (Below.refl _ _).drew
        generalize wr.drew = wrd at hHeld hB_d ⊢
        have e9 := E9.out
        have e7 := E7.out
        have e10 : wrap64 (b.toNat : Int) = (b.toNat : Int) := E10.out
        refine ty (i := 0) (v := ?_) rfl hHeld ?_ ?_
        rotate_left
        focus (intro w hSw; go_simp; (try simp only [IntWalk.i64_left]); try (with_reducible rfl))
        try simp only [PT]
        refine ty (i := 1) (v := ?_) rfl hHeld ?_ ?_
        rotate_left
        focus (intro w hSw; go_simp; (try simp only [IntWalk.i64_left]); try (with_reducible rfl))
        try simp only [PT]
        refine ty (i := 2) (v := ?_) rfl hHeld ?_ ?_
        rotate_left
        focus (intro w hSw; go_simp; (try simp only [IntWalk.i64_left]); try (with_reducible rfl))
        try simp only [PT]
        refine ty (i := 3) (v := ?_) rfl hHeld ?_ ?_
        rotate_left
        focus (intro w hSw; go_simp; (try simp only [IntWalk.i64_left]); try (with_reducible rfl))
        try simp only [PT]
        refine ty (i := 4) (v := ?_) rfl hHeld ?_ ?_
        rotate_left
        focus (intro w hSw; go_simp; (try simp only [IntWalk.i64_left]); try (with_reducible rfl))
        try simp only [PT]
        refine ty (i := 5) (v := ?_) rfl hHeld ?_ ?_
        rotate_left
        focus (intro w hSw; go_simp; (try simp only [IntWalk.i64_left]); try (with_reducible rfl))
        try simp only [PT]
        refine ty (i := 6) (v := ?_) rfl hHeld ?_ ?_
        rotate_left
        focus (intro w hSw; go_simp; (try simp only [IntWalk.i64_left]); try (with_reducible rfl))
        try simp only [PT]
        refine ty (i := 7) (v := ?_) rfl hHeld ?_ ?_
        rotate_left
        focus (intro w hSw; go_simp; (try simp only [IntWalk.i64_left]); try (with_reducible rfl))
        try simp only [PT]
        refine ty (i := 8) (v := ?_) rfl hHeld ?_ ?_
        rotate_left
        focus (intro w hSw; go_simp; (try simp only [IntWalk.i64_left]); try (with_reducible rfl))
        try simp only [PT]
        refine ty (i := 9) (v := ?_) rfl hHeld ?_ ?_
        rotate_left
        focus (intro w hSw; go_simp; (try simp only [IntWalk.i64_left]); try (with_reducible rfl))
        try simp only [PT]
        refine ty (i := 10) (v := ?_) rfl hHeld ?_ ?_
        rotate_left
        focus (intro w hSw; go_simp; (try simp only [IntWalk.i64_left]); try (with_reducible rfl))
        try simp only [PT]
        refine ty (i := 11) (v := ?_) rfl hHeld ?_ ?_
        rotate_left
        focus (intro w hSw; go_simp; (try simp only [IntWalk.i64_left]); try (with_reducible rfl))
        try simp only [PT]
        refine ty (i := 12) (v := ?_) rfl hHeld ?_ ?_
        rotate_left
        focus (intro w hSw; go_simp; (try simp only [IntWalk.i64_left]); try (with_reducible rfl))
        try simp only [PT]
        refine ty (i := 13) (v := ?_) rfl hHeld ?_ ?_
        rotate_left
        focus (intro w hSw; go_simp; (try simp only [IntWalk.i64_left]); try (with_reducible rfl))
        try simp only [PT]
        refine ty (i := 14) (v := ?_) rfl hHeld ?_ ?_
        rotate_left
        focus (intro w hSw; go_simp; (try simp only [IntWalk.i64_left]); try (with_reducible rfl))
        try simp only [PT]
        refine ty (i := 15) (v := ?_) rfl hHeld ?_ ?_
        rotate_left
        focus (intro w hSw; go_simp; (try simp only [IntWalk.i64_left]); try (with_reducible rfl))
        try simp only [PT]
        refine ty (i := 16) (v := ?_) rfl hHeld ?_ ?_
        rotate_left
        focus (intro w hSw; go_simp; (try simp only [IntWalk.i64_left]); try (with_reducible rfl))
        try simp only [PT]
        refine ty (i := 17) (v := ?_) rfl hHeld ?_ ?_
        rotate_left
        focus (intro w hSw; go_simp; (try simp only [IntWalk.i64_left]); try (with_reducible rfl))
        try simp only [PT]
        simp only [e7]
        clear e7 e8 e9 e10
        refine wpAnyH_ready (rs := [18]) (by kernel_rfl) (by simp) ?_
        refine ready_at rfl (fun K hK => ?_) AllReadyH.nil
        go_simp
        refine hK.out _ _ (HeldB.alloc hHeld _) (fun hHeld => ?_)
        clear hK K
        try simp only [PT]
        refine wpAnyH_ready (rs := [19]) (by kernel_rfl) (by simp) ?_
        refine ready_at rfl (fun K hK => ?_) AllReadyH.nil
        refine step_moreN (by rfl) _ _ 72 (by rfl) (base := W1.heap.size) (e := 3) (.int .i64 0) 1 8 (by omega) Tryz.underlying72 (by kernel_rfl) (by rfl) (v := u4) (by rfl) ((own_below Hown.out hB_d).alloc _) (by rfl) (rds_one wrd #[.int .i64 ((b.toNat : Int) + 1)] 3 1 rfl) (by simp [Value.oneCell']) (nm := i + 1) rfl (by omega) (by omega) (by rw [siz_alloc]; have := hB_d.size; omega) ?_
        intro A5 c5 W8 hown8 hlow8 hkeep8
        have HB8 := Lib.hid (low_step (hHeld.1) (Nat.le_refl _) hlow8)
        refine hK.out _ _ (HeldB.of HB8.out) (fun hHeld => ?_)
        clear hK K
        try simp only [PT]
        refine wpAnyH_ready (rs := [20]) (by kernel_rfl) (by simp) ?_
        refine ready_at rfl (fun K hK => ?_) AllReadyH.nil
        go_simp
        refine hK.out _ _ hHeld (fun hHeld => ?_)
        clear hK K
        try simp only [PT]
        refine wpAnyH_done (by kernel_rfl) ?_ _
        refine NoPanic.normal ?_
        have HO8 : Hid (W8.ownsRow W1.heap.size 3 1 (.slice A5 (i + 1) c5) (i + 1) (intCells ((R.take (i + 1)).map (symOf ts)))) := Lib.hid (by rw [htake.out, hs.out]; exact hown8)
        clear hown8 hlow8 hkeep8 w1a w2a hHeld
        go_wp2_with fail
        go_roundg k
        case measure => omega
        case rel => exact ⟨i + 1, by first | rfl | (rw [E3.out]; rfl), by omega, HO8, HB8⟩
    · have hi : i = R.length := by omega
      have n1 : decide ((i : Int) < (R.length : Int)) = false := by simpa using hlt
      have hown := Hown.out
      rw [hi, List.take_length] at hown
      have HO := Lib.hid (own_mono hown hsz1); clear hown Hown
      have HBF := Lib.hid (below_step HB1.out HB.out)
      go_wp2_with fail
      go_ret
      exact ⟨u4, rfl, HO.out, HBF.out⟩
end Go.Proofs.YtpdpcgmkpgfblaaGreat
/- The laws' helper Build. -/
namespace Go.Proofs.YtpdpcgmkpgfblaaGreat
set_option linter.unusedSimpArgs false
set_option linter.unusedVariables false
set_option linter.unnecessarySimpa false
open Go.RowKit
attribute [local go_sem ↓] Go.wp_at_zero Go.wp_at_succ
attribute [local go_sem] str_len
variable {ap : Value} {s : Ar} {O : Nat → Prop}
theorem cell_same {w w' : World} {a : Addr} (h : w'.heap[a.block]? = w.heap[a.block]?) : w'.cell? a = w.cell? a := by
 unfold World.cell?
 rw [h]
/-- A row of documents behind what leaves its block alone. -/
theorem Rd2.fr {w w' : World} {X O O' : Nat → Prop} {ad : Addr} {cap : Nat} {ds : List (Int × List UInt8)} (h : Rd2 w (.slice (some ad) ds.length cap) ds) (hF : Fr X O O' w w') (h1 : ¬ O ad.block) (h2 : ¬ X ad.block) : Rd2 w' (.slice (some ad) ds.length cap) ds := by
 obtain ⟨A, c, hv, hc⟩ := h
 obtain ⟨rfl, -, rfl⟩ := Value.slice.inj hv
 refine ⟨_, _, rfl, fun hn => ?_⟩
 obtain ⟨ad', ha, hlt, hc⟩ := hc hn
 obtain rfl := Option.some.inj ha
 have hb := hF.block _ hlt h1 h2
 refine ⟨ad, rfl, Nat.lt_of_lt_of_le hlt hF.size, fun i d hd => ?_⟩
 obtain ⟨c0, c1, c2⟩ := hc i d hd
 have hb' : w'.heap[(ad.add (i * 2)).block]? = w.heap[(ad.add (i * 2)).block]? := by rw [block_of_add]; exact hb
 exact ⟨Nat.lt_of_lt_of_le c0 hF.size, (cell_same hb').trans c1, (cell_same (by exact hb')).trans c2⟩
theorem below_fr {w W1 W2 : World} {O O' : Nat → Prop} (hb : Below w.heap.size w W1) (hF : Fr noX O O' W1 W2) (hO : ∀ b, O b → w.heap.size ≤ b) : Below w.heap.size w W2 :=
 ⟨hF.os.trans hb.os, hF.tape.trans hb.tape, hF.output.trans hb.output, Nat.le_trans hb.size hF.size, fun k hk => (hF.block k (Nat.lt_of_lt_of_le hk hb.size) (fun h => by have := hO k h; omega) (fun h => h)).trans (hb.block k hk)⟩
theorem bRows_ok {rate : Int} : ∀ {l : List (Int × Int × Int)} {i : Int} {b b' : Bst}, bRows rate l i b = some b' → b'.ok = true → b.ok = true
 | [], i, b, b', h, ho => by cases h; exact ho
 | x :: l, i, b, b', h, ho => by
  unfold bRows at h
  cases hb : b.ok with
  | true => rfl
  | false => rw [hb, if_neg (by decide)] at h; cases h; rw [hb] at ho; cases ho
set_option maxRecDepth 100000 in
set_option maxHeartbeats 8000000 in
theorem build_calls (rate : Int) (hr1 : 1 ≤ rate) (hr2 : rate ≤ 1000) (ds : List (Int × List UInt8)) (ad : Addr) (cap : Nat) (hne : ds ≠ []) (hrt : refRight (ds.map (·.2)) = true) (w : World) (hD : Rd2 w (.slice (some ad) ds.length cap) ds) (hO : ¬ O ad.block) (hA : AP w ap s O)
  (B1 B2 : Bst) (h1 : bRows rate (rowsM ds) 0 ⟨s, true, Parts.zero, 0⟩ = some B1) (ho1 : B1.ok = true) (h2 : bTable (docsM ds) B1 = some B2) (ho2 : B2.ok = true) (root : Int) (s' : Ar) (h3 : bEnd B2 = some (root, true, s')) :
  Calls Tryz.prog 12 #[ap, .int .i64 rate, .slice (some ad) ds.length cap] w fun e w' => e = .returned (.tuple #[.int .i64 root, .bool true]) ∧ Did noX ap s' O w w' := by
 have hlen : 0 < ds.length := List.length_pos_iff.2 hne
 obtain ⟨hn10, h40⟩ := right_len hrt
 rw [List.length_map] at hn10
 have d0 : ((ds.length : Int) == 0) = false := by rw [beq_eq_false_iff_ne]; omega
 have HD := Lib.hid hD; have H1 := Lib.hid h1; have H2 := Lib.hid h2; have H3 := Lib.hid h3; have H40 := Lib.hid h40; have HO := Lib.hid hO
 clear hD h1 h2 h3 h40 hne
 obtain ⟨ts, hts⟩ : ∃ ts, ts = ds.map (·.2) := ⟨_, rfl⟩
 have htl : ts.length = ds.length := by rw [hts, List.length_map]
 rw [← hts] at hrt
 have H40' : Hid (∀ t, t ∈ ts → t.length ≤ 50000) := Lib.hid (fun t ht => by
  obtain ⟨i, hi, rfl⟩ := List.getElem_of_mem ht
  have := (right_len hrt).2 i
  rw [getD_at (List.getElem?_eq_getElem hi)] at this
  omega)
 have Hts := Lib.hid hts; clear hts
 obtain ⟨q, rfl⟩ := hA.ptr
 go_enter Tryz.func12, Tryz.ntmps12
 go_wp2_with fail
 refine calls_gen fun V0 hV_V0 => ?_
 have n_ka := congrArg (fun v : World => v.heap[w.heap.size]?) hV_V0
 simp (maxDischargeDepth := 9) only [BK, not_false_eq_true, reduceCtorEq] at n_ka
 have o_ka : ¬ O (w.heap.size) := by first | exact hA.new (Nat.le_refl _) | exact hA.new (by omega)
 have n_F : Fr (noX) O O w V0 := nF hV_V0
 have n_A : AP V0 (.pointer q) s O := nA hV_V0
 have z_V0 := Nat.le_of_eq (congrArg (fun v : World => v.heap.size) hV_V0).symm
 try simp only [SZ] at z_V0
 clear hV_V0
 clear hA
 have hA := n_A
 clear n_A
 skip
 have hF := n_F
 clear n_F
 have ka := n_ka; clear n_ka
 have c_ka := cells_of ka
 have f_ka := free_of ka
 have l_ka_V0 := lt_of ka
 have hAV0 := hA
 refine (texts_calls _ ds (by omega) _ (HD.out.fr hF HO.out (fun h => h))).mono ?_
 rintro e_W0 W0 ⟨v0, rfl, hown0, hb_W0⟩
 replace hA := hA.below hb_W0
 replace hF := hF.below hb_W0
 replace ka := keep_blk hb_W0 ka
 have c_ka := cells_of ka
 have f_ka := free_of ka
 have l_ka_W0 := lt_of ka
 have z_W0 := hb_W0.size
 clear hb_W0
 have hge0 : ∀ g, v0.ownBlock = some g → V0.heap.size ≤ g := fun g hg => (hown0.lt g hg).1
 obtain ⟨hl0, A0, c0, rfl, hx0⟩ := Rk.of_own hown0
 obtain ⟨g0, cs0, T0, rfl, kx, hcs0⟩ := hx0 (by omega)
 have o_kx : ¬ O g0 := fun h => by have := hAV0.lt h; have := hge0 g0 rfl; omega
 have HX0 : Hid (∀ V : World, V.heap[g0]? = some (.cells cs0 T0 (0, 0)) → Rk V 1 (.slice (some ⟨g0, 0, none⟩) ds.length c0) ts.length (ts.map strOf)) := Lib.hid (fun V hV => by
  rw [Hts.out, List.length_map]
  exact ⟨hl0, _, _, rfl, fun _ => ⟨g0, cs0, T0, rfl, hV, hcs0⟩⟩)
 clear hAV0 hown0 hge0 hl0 hx0 hcs0
 have c_kx := cells_of kx
 have f_kx := free_of kx
 have l_kx_W0 := lt_of kx
 go_wp2_with fail
 refine calls_gen fun V1 hV_V1 => ?_
 have n_ka := congrArg (fun v : World => v.heap[w.heap.size]?) hV_V1
 simp (maxDischargeDepth := 9) only [BK, not_false_eq_true, reduceCtorEq, ka, kx, l_ka_V0, l_ka_W0, l_kx_W0] at n_ka
 have n_kx := congrArg (fun v : World => v.heap[g0]?) hV_V1
 simp (maxDischargeDepth := 9) only [BK, not_false_eq_true, reduceCtorEq, ka, kx, l_ka_V0, l_ka_W0, l_kx_W0] at n_kx
 have n_F : Fr (noX) O O w V1 := nF hV_V1
 have n_A : AP V1 (.pointer q) s O := nA hV_V1
 have z_V1 := Nat.le_of_eq (congrArg (fun v : World => v.heap.size) hV_V1).symm
 try simp only [SZ] at z_V1
 clear ka c_ka f_ka
 clear kx c_kx f_kx
 clear hV_V1
 clear hA
 have hA := n_A
 clear n_A
 clear hF
 have hF := n_F
 clear n_F
 have ka := n_ka; clear n_ka
 have c_ka := cells_of ka
 have f_ka := free_of ka
 have l_ka_V1 := lt_of ka
 have kx := n_kx; clear n_kx
 have c_kx := cells_of kx
 have f_kx := free_of kx
 have l_kx_V1 := lt_of kx
 have hAV1 := hA
 refine (sorted_calls _ ts (by omega) _ (HX0.out _ kx)).mono ?_
 rintro e_W1 W1 ⟨v1, rfl, hown1, hb_W1⟩
 replace hA := hA.below hb_W1
 replace hF := hF.below hb_W1
 replace ka := keep_blk hb_W1 ka
 have c_ka := cells_of ka
 have f_ka := free_of ka
 have l_ka_W1 := lt_of ka
 replace kx := keep_blk hb_W1 kx
 have c_kx := cells_of kx
 have f_kx := free_of kx
 have l_kx_W1 := lt_of kx
 have z_W1 := hb_W1.size
 clear hb_W1
 have hge1 : ∀ g, v1.ownBlock = some g → V1.heap.size ≤ g := fun g hg => (hown1.lt g hg).1
 have hRpos : 0 < (refSorted ts).length := by
  unfold refSorted; rw [if_pos hrt, refFold_length]
  obtain ⟨n, hn⟩ : ∃ n, ts.length = n + 1 := ⟨ts.length - 1, by omega⟩
  rw [hn, ← upto_next, upto_snoc]; simp
 obtain ⟨hl1, A1, c1, rfl, hx1⟩ := Rk.of_own hown1
 obtain ⟨g1, cs1, T1, rfl, kr, hcs1⟩ := hx1 hRpos
 have o_kr : ¬ O g1 := fun h => by have := hAV1.lt h; have := hge1 g1 rfl; omega
 have hrows : Hid (∀ (i : Nat) (r : Nat × Nat), (refSorted ts)[i]? = some r → cs1[i * 2]? = some (Value.int .i64 (r.1 : Int)) ∧ cs1[i * 2 + 1]? = some (Value.int .i64 (r.2 : Int))) := Lib.hid (fun (i : Nat) (r : Nat × Nat) hr => by
  have hi := (List.getElem?_eq_some_iff.1 hr).1
  exact ⟨(hcs1 _ (by omega)).trans (rowCells_at hr).1, (hcs1 _ (by omega)).trans (rowCells_at hr).2⟩)
 clear hAV1 hown1 hge1 hl1 hx1 hcs1
 have c_kr := cells_of kr
 have f_kr := free_of kr
 have l_kr_W1 := lt_of kr
 go_wp2_with fail
 refine calls_gen fun V2 hV_V2 => ?_
 have n_ka := congrArg (fun v : World => v.heap[w.heap.size]?) hV_V2
 simp (maxDischargeDepth := 9) only [BK, not_false_eq_true, reduceCtorEq, ka, kx, kr, l_ka_V0, l_ka_W0, l_kx_W0, l_ka_V1, l_kx_V1, l_ka_W1, l_kx_W1, l_kr_W1] at n_ka
 have n_kx := congrArg (fun v : World => v.heap[g0]?) hV_V2
 simp (maxDischargeDepth := 9) only [BK, not_false_eq_true, reduceCtorEq, ka, kx, kr, l_ka_V0, l_ka_W0, l_kx_W0, l_ka_V1, l_kx_V1, l_ka_W1, l_kx_W1, l_kr_W1] at n_kx
 have n_kr := congrArg (fun v : World => v.heap[g1]?) hV_V2
 simp (maxDischargeDepth := 9) only [BK, not_false_eq_true, reduceCtorEq, ka, kx, kr, l_ka_V0, l_ka_W0, l_kx_W0, l_ka_V1, l_kx_V1, l_ka_W1, l_kx_W1, l_kr_W1] at n_kr
 have n_F : Fr (noX) O O w V2 := nF hV_V2
 have n_A : AP V2 (.pointer q) s O := nA hV_V2
 have z_V2 := Nat.le_of_eq (congrArg (fun v : World => v.heap.size) hV_V2).symm
 try simp only [SZ] at z_V2
 clear ka c_ka f_ka
 clear kx c_kx f_kx
 clear kr c_kr f_kr
 clear hV_V2
 clear hA
 have hA := n_A
 clear n_A
 clear hF
 have hF := n_F
 clear n_F
 have ka := n_ka; clear n_ka
 have c_ka := cells_of ka
 have f_ka := free_of ka
 have l_ka_V2 := lt_of ka
 have kx := n_kx; clear n_kx
 have c_kx := cells_of kx
 have f_kx := free_of kx
 have l_kx_V2 := lt_of kx
 have kr := n_kr; clear n_kr
 have c_kr := cells_of kr
 have f_kr := free_of kr
 have l_kr_V2 := lt_of kr
 have hAV2 := hA
 refine (symbols_calls _ ts (by omega) H40'.out _ (HX0.out _ kx)).mono ?_
 rintro e_W2 W2 ⟨v2, rfl, hown2, hb_W2⟩
 replace hA := hA.below hb_W2
 replace hF := hF.below hb_W2
 replace ka := keep_blk hb_W2 ka
 have c_ka := cells_of ka
 have f_ka := free_of ka
 have l_ka_W2 := lt_of ka
 replace kx := keep_blk hb_W2 kx
 have c_kx := cells_of kx
 have f_kx := free_of kx
 have l_kx_W2 := lt_of kx
 replace kr := keep_blk hb_W2 kr
 have c_kr := cells_of kr
 have f_kr := free_of kr
 have l_kr_W2 := lt_of kr
 have z_W2 := hb_W2.size
 clear hb_W2
 have hge2 : ∀ g, v2.ownBlock = some g → V2.heap.size ≤ g := fun g hg => (hown2.lt g hg).1
 obtain ⟨hl2, A2, c2, rfl, hx2⟩ := Rk.of_own hown2
 obtain ⟨g2, cs2, T2, rfl, ks, hcs2⟩ := hx2 hRpos
 have o_ks : ¬ O g2 := fun h => by have := hAV2.lt h; have := hge2 g2 rfl; omega
 have hsyms : Hid (∀ (i : Nat) (r : Nat × Nat), (refSorted ts)[i]? = some r → cs2[i]? = some (Value.int .i64 (symOf ts r))) := Lib.hid (fun (i : Nat) (r : Nat × Nat) hr => by
  have hi := (List.getElem?_eq_some_iff.1 hr).1
  refine (hcs2 _ (by omega)).trans ?_
  unfold intCells; rw [List.getElem?_map, List.getElem?_map, hr]; rfl)
 clear hAV2 hown2 hge2 hl2 hx2 hcs2
 have c_ks := cells_of ks
 have f_ks := free_of ks
 have l_ks_W2 := lt_of ks
 have hl2 := lt_of ks
 have hl1 := lt_of kr
 go_wp2_with fail
 refine wp_gen fun V3 hV_V3 => ?_
 have n_ka := congrArg (fun v : World => v.heap[w.heap.size]?) hV_V3
 simp (maxDischargeDepth := 9) only [BK, not_false_eq_true, reduceCtorEq, ka, kx, kr, ks, l_ka_V0, l_ka_W0, l_kx_W0, l_ka_V1, l_kx_V1, l_ka_W1, l_kx_W1, l_kr_W1, l_ka_V2, l_kx_V2, l_kr_V2, l_ka_W2, l_kx_W2, l_kr_W2, l_ks_W2] at n_ka
 have n_kr := congrArg (fun v : World => v.heap[g1]?) hV_V3
 simp (maxDischargeDepth := 9) only [BK, not_false_eq_true, reduceCtorEq, ka, kx, kr, ks, l_ka_V0, l_ka_W0, l_kx_W0, l_ka_V1, l_kx_V1, l_ka_W1, l_kx_W1, l_kr_W1, l_ka_V2, l_kx_V2, l_kr_V2, l_ka_W2, l_kx_W2, l_kr_W2, l_ks_W2] at n_kr
 have n_ks := congrArg (fun v : World => v.heap[g2]?) hV_V3
 simp (maxDischargeDepth := 9) only [BK, not_false_eq_true, reduceCtorEq, ka, kx, kr, ks, l_ka_V0, l_ka_W0, l_kx_W0, l_ka_V1, l_kx_V1, l_ka_W1, l_kx_W1, l_kr_W1, l_ka_V2, l_kx_V2, l_kr_V2, l_ka_W2, l_kx_W2, l_kr_W2, l_ks_W2] at n_ks
 have n_kp := congrArg (fun v : World => v.heap[W2.heap.size]?) hV_V3
 simp (maxDischargeDepth := 9) only [BK, not_false_eq_true, reduceCtorEq, ka, kx, kr, ks, l_ka_V0, l_ka_W0, l_kx_W0, l_ka_V1, l_kx_V1, l_ka_W1, l_kx_W1, l_kr_W1, l_ka_V2, l_kx_V2, l_kr_V2, l_ka_W2, l_kx_W2, l_kr_W2, l_ks_W2] at n_kp
 have n_kt := congrArg (fun v : World => v.heap[W2.heap.size + 1]?) hV_V3
 simp (maxDischargeDepth := 9) only [BK, not_false_eq_true, reduceCtorEq, ka, kx, kr, ks, l_ka_V0, l_ka_W0, l_kx_W0, l_ka_V1, l_kx_V1, l_ka_W1, l_kx_W1, l_kr_W1, l_ka_V2, l_kx_V2, l_kr_V2, l_ka_W2, l_kx_W2, l_kr_W2, l_ks_W2] at n_kt
 have o_kp : ¬ O (W2.heap.size) := by first | exact hA.new (Nat.le_refl _) | exact hA.new (by omega)
 have o_kt : ¬ O (W2.heap.size + 1) := by first | exact hA.new (Nat.le_refl _) | exact hA.new (by omega)
 have n_F : Fr (noX) O O w V3 := nF hV_V3
 have n_A : AP V3 (.pointer q) s O := nA hV_V3
 have z_V3 := Nat.le_of_eq (congrArg (fun v : World => v.heap.size) hV_V3).symm
 try simp only [SZ] at z_V3
 clear ka c_ka f_ka
 clear kx c_kx f_kx
 clear kr c_kr f_kr
 clear ks c_ks f_ks
 clear hV_V3
 clear hA
 have hA := n_A
 clear n_A
 clear hF
 have hF := n_F
 clear n_F
 have ka := n_ka; clear n_ka
 have c_ka := cells_of ka
 have f_ka := free_of ka
 have l_ka_V3 := lt_of ka
 have kr := n_kr; clear n_kr
 have c_kr := cells_of kr
 have f_kr := free_of kr
 have l_kr_V3 := lt_of kr
 have ks := n_ks; clear n_ks
 have c_ks := cells_of ks
 have f_ks := free_of ks
 have l_ks_V3 := lt_of ks
 have kp := n_kp; clear n_kp
 have c_kp := cells_of kp
 have f_kp := free_of kp
 have l_kp_V3 := lt_of kp
 have kt := n_kt; clear n_kt
 have c_kt := cells_of kt
 have f_kt := free_of kt
 have l_kt_V3 := lt_of kt
 obtain ⟨R, hR⟩ : ∃ R, R = refSorted ts := ⟨_, rfl⟩
 rw [← hR] at hrows hsyms hRpos
 have hsm : R.length ≤ 500 := by rw [hR]; exact sorted_small ts
 have hlt1 : ∀ (i : Nat) (r : Nat × Nat), R[i]? = some r → ∃ d, ds[r.1]? = some d ∧ (rowsM ds)[i]? = some (d.1, (r.2 : Int), symOf ts r) := by
  intro i r hr
  obtain ⟨t, ht, -⟩ := sorted_valid (hR ▸ List.mem_of_getElem? hr)
  have h1 := (List.getElem?_eq_some_iff.1 ht).1
  obtain ⟨d, hd⟩ := at_some (show r.1 < ds.length by omega)
  refine ⟨d, hd, ?_⟩
  unfold rowsM
  rw [← Hts.out, ← hR, List.getElem?_map, hr]
  simp [List.getD, hd]
 have hLlen : (rowsM ds).length = R.length := by unfold rowsM; rw [← Hts.out, ← hR, List.length_map]
 have Hlt1 := Lib.hid hlt1; have HR := Lib.hid hR
 simp only [← hR]
 clear hlt1 hR
 have hneq : g1 ≠ W2.heap.size ∧ g1 ≠ W2.heap.size + 1 ∧ g2 ≠ W2.heap.size ∧ g2 ≠ W2.heap.size + 1 ∧ w.heap.size ≠ W2.heap.size ∧ w.heap.size ≠ W2.heap.size + 1 ∧ w.heap.size < W2.heap.size := by
  have := lt_of ka
  omega
 obtain ⟨ne1, ne2, ne3, ne4, ne5, ne6, hww⟩ := hneq
 have hY : ∀ x, twoX W2.heap.size (W2.heap.size + 1) x → w.heap.size ≤ x := by
  intro x hx
  rcases hx with rfl | rfl <;> omega
 have hdoc : Hid (Rd2 V3 (.slice (some ad) ds.length cap) ds) := Lib.hid (HD.out.fr hF HO.out (fun h => h))
 have HF3 := Lib.hid hF
 go_loopg [14, 40] R.length (fun k p1 p2 wr => ∃ (i : Nat) (st : Bst) (O' : Nat → Prop), p1 = .int .i64 st.n ∧ p2 = .int .i64 (i : Int) ∧ i + k = R.length ∧ AP wr (.pointer q) st.s O' ∧ Hid (Fr noX O O' w wr)
  ∧ wr.heap[W2.heap.size]? = some (.cells #[.int .i64 st.p.wave, .int .i64 st.p.marks, .int .i64 st.p.spots, .int .i64 st.p.table] 46 (0, 0)) ∧ wr.heap[W2.heap.size + 1]? = some (.cells #[.bool st.ok] 4 (0, 0)) ∧ wr.heap[w.heap.size]? = some (.cells #[.pointer q] 25 (0, 0))
  ∧ wr.heap[g1]? = some (.cells cs1 T1 (0, 0)) ∧ wr.heap[g2]? = some (.cells cs2 T2 (0, 0)) ∧ ¬ O' (W2.heap.size) ∧ ¬ O' (W2.heap.size + 1) ∧ ¬ O' w.heap.size ∧ ¬ O' g1 ∧ ¬ O' g2 ∧ ¬ O' ad.block ∧ Hid (Rd2 wr (.slice (some ad) ds.length cap) ds) ∧ Hid (bRows rate ((rowsM ds).drop i) i st = some B1))
 case atStart => exact ⟨0, _, O, rfl, rfl, by omega, hA, HF3, kp, kt, ka, kr, ks, o_kp, o_kt, o_ka, o_kr, o_ks, HO.out, hdoc, H1⟩
 case round =>
  clear ka kr ks kp kt c_ka c_kr c_ks c_kp c_kt f_ka f_kr f_ks f_kp f_kt hA hF hdoc HF3 o_kp o_kt o_ka o_kr o_ks
  obtain ⟨i, st, O1, rfl, rfl, hk, hA, HF, kp, kt, ka, kr, ks, o_kp, o_kt, o_ka, o_kr, o_ks, oD, hdoc, Hb⟩ := hrel
  have hok := bRows_ok Hb.out ho1
  by_cases hlt : i < R.length
  ·
   obtain ⟨k, rfl⟩ : ∃ k, gk = k + 1 := ⟨gk - 1, by omega⟩
   obtain ⟨r, hr⟩ := at_some hlt
   obtain ⟨d, hd, hx⟩ := Hlt1.out i r hr
   have hb := Hb.out
   rw [drop_at hx] at hb
   unfold bRows at hb
   rw [hok, if_pos rfl] at hb
   obtain ⟨st2, hst2, hb2⟩ := Option.bind_eq_some_iff.1 hb
   unfold bStep at hst2
   obtain ⟨r1, hr1', hst2⟩ := Option.bind_eq_some_iff.1 hst2
   dsimp only at hr1' hst2
   obtain ⟨r2, hr2', hst2⟩ := Option.bind_eq_some_iff.1 hst2
   obtain ⟨t1, ht1⟩ : ∃ t, nextA st.ok st.p.wave r1 = t := ⟨_, rfl⟩
   rw [ht1] at hr2' hst2
   obtain ⟨t2, ht2⟩ : ∃ t, nextA t1.2.1 st.p.marks r2 = t := ⟨_, rfl⟩
   rw [ht2] at hst2
   have Hr1 := Lib.hid hr1'; have Hr2 := Lib.hid hr2'; have Hst2 := Lib.hid hst2; have Hb2 := Lib.hid hb2; have Ht1 := Lib.hid ht1; have Ht2 := Lib.hid ht2
   obtain ⟨rc1, rc2⟩ := hrows.out i r hr
   have rc3 := hsyms.out i r hr
   have n1 : decide ((i : Int) < (R.length : Int)) = true := by simpa using hlt
   have n2 : (i : Int) < (R.length : Int) := by omega
   have E3 := Lib.hid (step_wrap i 500 (by omega) (by omega))
   have hd1 := (List.getElem?_eq_some_iff.1 hd).1
   have n3 : (r.1 : Int) < (ds.length : Int) := by omega
   have Hd := Lib.hid hd; have Hlt := Lib.hid hlt
   clear hb hr1' hr2' hst2 hb2 ht1 ht2 hr hx hd hlt Hb hd1
   have hF := Fr.refl ((twoX W2.heap.size (W2.heap.size + 1))) O1 wr
   have c_ka := cells_of ka
   have f_ka := free_of ka
   have l_ka_wr := lt_of ka
   have c_kr := cells_of kr
   have f_kr := free_of kr
   have l_kr_wr := lt_of kr
   have c_ks := cells_of ks
   have f_ks := free_of ks
   have l_ks_wr := lt_of ks
   have c_kp := cells_of kp
   have f_kp := free_of kp
   have l_kp_wr := lt_of kp
   have c_kt := cells_of kt
   have f_kt := free_of kt
   have l_kt_wr := lt_of kt
   go_wp2_with fail
   refine wp_gen fun V4 hV_V4 => ?_
   have n_ka := congrArg (fun v : World => v.heap[w.heap.size]?) hV_V4
   simp (maxDischargeDepth := 9) only [BK, not_false_eq_true, reduceCtorEq, ka, kr, ks, kp, kt, l_ka_wr, l_kr_wr, l_ks_wr, l_kp_wr, l_kt_wr, ne1, ne2, ne3, ne4, ne5, ne6] at n_ka
   have n_kr := congrArg (fun v : World => v.heap[g1]?) hV_V4
   simp (maxDischargeDepth := 9) only [BK, not_false_eq_true, reduceCtorEq, ka, kr, ks, kp, kt, l_ka_wr, l_kr_wr, l_ks_wr, l_kp_wr, l_kt_wr, ne1, ne2, ne3, ne4, ne5, ne6] at n_kr
   have n_ks := congrArg (fun v : World => v.heap[g2]?) hV_V4
   simp (maxDischargeDepth := 9) only [BK, not_false_eq_true, reduceCtorEq, ka, kr, ks, kp, kt, l_ka_wr, l_kr_wr, l_ks_wr, l_kp_wr, l_kt_wr, ne1, ne2, ne3, ne4, ne5, ne6] at n_ks
   have n_kp := congrArg (fun v : World => v.heap[W2.heap.size]?) hV_V4
   simp (maxDischargeDepth := 9) only [BK, not_false_eq_true, reduceCtorEq, ka, kr, ks, kp, kt, l_ka_wr, l_kr_wr, l_ks_wr, l_kp_wr, l_kt_wr, ne1, ne2, ne3, ne4, ne5, ne6] at n_kp
   have n_kt := congrArg (fun v : World => v.heap[W2.heap.size + 1]?) hV_V4
   simp (maxDischargeDepth := 9) only [BK, not_false_eq_true, reduceCtorEq, ka, kr, ks, kp, kt, l_ka_wr, l_kr_wr, l_ks_wr, l_kp_wr, l_kt_wr, ne1, ne2, ne3, ne4, ne5, ne6] at n_kt
   have n_F : Fr ((twoX W2.heap.size (W2.heap.size + 1))) O1 O1 wr V4 := nF hV_V4
   have n_A : AP V4 (.pointer q) st.s O1 := nA hV_V4
   have z_V4 := Nat.le_of_eq (congrArg (fun v : World => v.heap.size) hV_V4).symm
   try simp only [SZ] at z_V4
   clear ka c_ka f_ka
   clear kr c_kr f_kr
   clear ks c_ks f_ks
   clear kp c_kp f_kp
   clear kt c_kt f_kt
   clear hV_V4
   clear hA
   have hA := n_A
   clear n_A
   clear hF
   have hF := n_F
   clear n_F
   have ka := n_ka; clear n_ka
   have c_ka := cells_of ka
   have f_ka := free_of ka
   have l_ka_V4 := lt_of ka
   have kr := n_kr; clear n_kr
   have c_kr := cells_of kr
   have f_kr := free_of kr
   have l_kr_V4 := lt_of kr
   have ks := n_ks; clear n_ks
   have c_ks := cells_of ks
   have f_ks := free_of ks
   have l_ks_V4 := lt_of ks
   have kp := n_kp; clear n_kp
   have c_kp := cells_of kp
   have f_kp := free_of kp
   have l_kp_V4 := lt_of kp
   have kt := n_kt; clear n_kt
   have c_kt := cells_of kt
   have f_kt := free_of kt
   have l_kt_V4 := lt_of kt
   refine wp_region_noPanic ?_
   refine wp_region_held_drew (S := fun v => (∀ o, v.cell? ⟨w.heap.size, o, none⟩ = V4.cell? ⟨w.heap.size, o, none⟩) ∧ (∀ o, v.cell? ⟨g1, o, none⟩ = V4.cell? ⟨g1, o, none⟩) ∧ (∀ o, v.cell? ⟨g2, o, none⟩ = V4.cell? ⟨g2, o, none⟩) ∧ (∀ o, v.cell? ⟨W2.heap.size, o, none⟩ = V4.cell? ⟨W2.heap.size, o, none⟩) ∧ (∀ o, v.cell? ⟨W2.heap.size + 1, o, none⟩ = V4.cell? ⟨W2.heap.size + 1, o, none⟩) ∧ (V4.heap.size ≤ v.heap.size) ∧ True) (by kernel_rfl) ⟨(fun _ => rfl), (fun _ => rfl), (fun _ => rfl), (fun _ => rfl), (fun _ => rfl), (Nat.le_refl _), trivial⟩ (fun hHeld => ?_)
   generalize hV_V4d : V4.drew = V4d at hHeld ⊢
   have n_ka : V4d.heap[w.heap.size]? = V4.heap[w.heap.size]? := by rw [← hV_V4d]; rfl
   have d_ka := n_ka.trans ka
   clear n_ka c_ka f_ka
   have n_kr : V4d.heap[g1]? = V4.heap[g1]? := by rw [← hV_V4d]; rfl
   have d_kr := n_kr.trans kr
   clear n_kr c_kr f_kr
   have n_ks : V4d.heap[g2]? = V4.heap[g2]? := by rw [← hV_V4d]; rfl
   have d_ks := n_ks.trans ks
   clear n_ks c_ks f_ks
   have n_kp : V4d.heap[W2.heap.size]? = V4.heap[W2.heap.size]? := by rw [← hV_V4d]; rfl
   have d_kp := n_kp.trans kp
   clear n_kp c_kp f_kp
   have n_kt : V4d.heap[W2.heap.size + 1]? = V4.heap[W2.heap.size + 1]? := by rw [← hV_V4d]; rfl
   have d_kt := n_kt.trans kt
   clear n_kt c_kt f_kt
   have n_A : AP V4d (.pointer q) st.s O1 := by rw [← hV_V4d]; exact hA.drew
   clear hA; have hA := n_A; clear n_A
   have n_F : Fr ((twoX W2.heap.size (W2.heap.size + 1))) O1 O1 wr V4d := by rw [← hV_V4d]; exact hF.drew
   clear hF; have hF := n_F; clear n_F
   have z_V4d : V4.heap.size ≤ V4d.heap.size := by rw [← hV_V4d]; exact Nat.le_refl _
   have v_ka := cells_of ka
   have v_kr := cells_of kr
   have v_ks := cells_of ks
   have v_kp := cells_of kp
   have v_kt := cells_of kt
   clear ka; have ka := d_ka; clear d_ka
   clear kr; have kr := d_kr; clear d_kr
   clear ks; have ks := d_ks; clear d_ks
   clear kp; have kp := d_kp; clear d_kp
   clear kt; have kt := d_kt; clear d_kt
   have c_ka := cells_of ka
   have f_ka := free_of ka
   have l_ka_V4d := lt_of ka
   have c_kr := cells_of kr
   have f_kr := free_of kr
   have l_kr_V4d := lt_of kr
   have c_ks := cells_of ks
   have f_ks := free_of ks
   have l_ks_V4d := lt_of ks
   have c_kp := cells_of kp
   have f_kp := free_of kp
   have l_kp_V4d := lt_of kp
   have c_kt := cells_of kt
   have f_kt := free_of kt
   have l_kt_V4d := lt_of kt
   clear hV_V4d
   refine ty (i := 0) (v := ?_) rfl hHeld ?_ ?_
   rotate_left
   focus (intro w hSw; go_simp; (try simp only [IntWalk.i64_left]); try (with_reducible rfl))
   try simp only [PT]
   refine ty (i := 1) (v := ?_) rfl hHeld ?_ ?_
   rotate_left
   focus (intro w hSw; go_simp; (try simp only [IntWalk.i64_left]); try (with_reducible rfl))
   try simp only [PT]
   refine ty (i := 2) (v := ?_) rfl hHeld ?_ ?_
   rotate_left
   focus (intro w hSw; go_simp; (try simp only [IntWalk.i64_left]); try (with_reducible rfl))
   try simp only [PT]
   refine ty (i := 3) (v := ?_) rfl hHeld ?_ ?_
   rotate_left
   focus (intro w hSw; go_simp; (try simp only [IntWalk.i64_left]); try (with_reducible rfl))
   try simp only [PT]
   refine ty (i := 4) (v := ?_) rfl hHeld ?_ ?_
   rotate_left
   focus (intro w hSw; go_simp; (try simp only [IntWalk.i64_left]); try (with_reducible rfl))
   try simp only [PT]
   refine ty (i := 5) (v := ?_) rfl hHeld ?_ ?_
   rotate_left
   focus (intro w hSw; go_simp; (try simp only [IntWalk.i64_left]); try (with_reducible rfl))
   try simp only [PT]
   refine ty (i := 6) (v := ?_) rfl hHeld ?_ ?_
   rotate_left
   focus (intro w hSw; go_simp; (try simp only [IntWalk.i64_left]); try (with_reducible rfl))
   try simp only [PT]
   refine ty (i := 7) (v := ?_) rfl hHeld ?_ ?_
   rotate_left
   focus (intro w hSw; go_simp; (try simp only [IntWalk.i64_left]); try (with_reducible rfl))
   try simp only [PT]
   refine wpAnyH_ready (rs := [8]) (by kernel_rfl) (by simp) ?_
   refine ready_at rfl (fun K hK => ?_) AllReadyH.nil
   go_simp
   try simp only [IntWalk.i64_left]
   refine (wInsert_calls st.s O1 _ _ _ r1 Hr1.out _ hA).mono ?_
   rintro e_W5 W5 ⟨rfl, O2, hA_W5, hf_W5⟩
   have q_ka := hf_W5.keep ka o_ka (fun h => h)
   have q_kr := hf_W5.keep kr o_kr (fun h => h)
   have q_ks := hf_W5.keep ks o_ks (fun h => h)
   have q_kp := hf_W5.keep kp o_kp (fun h => h)
   have q_kt := hf_W5.keep kt o_kt (fun h => h)
   replace o_ka := hf_W5.not_own (lt_of ka) o_ka
   clear ka; have ka := q_ka; clear q_ka
   have c_ka := cells_of ka
   have f_ka := free_of ka
   have l_ka_W5 := lt_of ka
   replace o_kr := hf_W5.not_own (lt_of kr) o_kr
   clear kr; have kr := q_kr; clear q_kr
   have c_kr := cells_of kr
   have f_kr := free_of kr
   have l_kr_W5 := lt_of kr
   replace o_ks := hf_W5.not_own (lt_of ks) o_ks
   clear ks; have ks := q_ks; clear q_ks
   have c_ks := cells_of ks
   have f_ks := free_of ks
   have l_ks_W5 := lt_of ks
   replace o_kp := hf_W5.not_own (lt_of kp) o_kp
   clear kp; have kp := q_kp; clear q_kp
   have c_kp := cells_of kp
   have f_kp := free_of kp
   have l_kp_W5 := lt_of kp
   replace o_kt := hf_W5.not_own (lt_of kt) o_kt
   clear kt; have kt := q_kt; clear q_kt
   have c_kt := cells_of kt
   have f_kt := free_of kt
   have l_kt_W5 := lt_of kt
   replace hF := hF.trans hf_W5.widen
   have z_W5 := hf_W5.size
   clear hA hf_W5; have hA := hA_W5; clear hA_W5
   refine hK.out _ _ ⟨(fun o => (c_ka o).trans (v_ka o).symm), (fun o => (c_kr o).trans (v_kr o).symm), (fun o => (c_ks o).trans (v_ks o).symm), (fun o => (c_kp o).trans (v_kp o).symm), (fun o => (c_kt o).trans (v_kt o).symm), (by omega), trivial⟩ (fun hHeld => ?_)
   clear hK K
   try simp only [PT]
   refine ty (i := 9) (v := ?_) rfl hHeld ?_ ?_
   rotate_left
   focus (intro w hSw; go_simp; (try simp only [IntWalk.i64_left]); try (with_reducible rfl))
   try simp only [PT]
   refine ty (i := 10) (v := ?_) rfl hHeld ?_ ?_
   rotate_left
   focus (intro w hSw; go_simp; (try simp only [IntWalk.i64_left]); try (with_reducible rfl))
   try simp only [PT]
   refine ty (i := 11) (v := ?_) rfl hHeld ?_ ?_
   rotate_left
   focus (intro w hSw; go_simp; (try simp only [IntWalk.i64_left]); try (with_reducible rfl))
   try simp only [PT]
   refine wpAnyH_ready (rs := [12]) (by kernel_rfl) (by simp) ?_
   refine ready_at rfl (fun K hK => ?_) AllReadyH.nil
   go_simp
   refine hK.out _ _ hHeld (fun hHeld => ?_)
   clear hK K
   try simp only [PT]
   refine wpAnyH_ready (rs := [13]) (by kernel_rfl) (by simp) ?_
   refine ready_at rfl (fun K hK => ?_) AllReadyH.nil
   go_simp
   refine hK.out _ _ hHeld (fun hHeld => ?_)
   clear hK K
   try simp only [PT]
   refine wpAnyH_done (by kernel_rfl) ?_ _
   refine NoPanic.normal ?_
   go_wp2_with fail
   refine calls_gen fun V5 hV_V5 => ?_
   have n_ka := congrArg (fun v : World => v.heap[w.heap.size]?) hV_V5
   simp (maxDischargeDepth := 9) only [BK, not_false_eq_true, reduceCtorEq, ka, kr, ks, kp, kt, l_ka_wr, l_kr_wr, l_ks_wr, l_kp_wr, l_kt_wr, ne1, ne2, ne3, ne4, ne5, ne6, l_ka_V4, l_kr_V4, l_ks_V4, l_kp_V4, l_kt_V4, l_ka_V4d, l_kr_V4d, l_ks_V4d, l_kp_V4d, l_kt_V4d, l_ka_W5, l_kr_W5, l_ks_W5, l_kp_W5, l_kt_W5] at n_ka
   have n_kr := congrArg (fun v : World => v.heap[g1]?) hV_V5
   simp (maxDischargeDepth := 9) only [BK, not_false_eq_true, reduceCtorEq, ka, kr, ks, kp, kt, l_ka_wr, l_kr_wr, l_ks_wr, l_kp_wr, l_kt_wr, ne1, ne2, ne3, ne4, ne5, ne6, l_ka_V4, l_kr_V4, l_ks_V4, l_kp_V4, l_kt_V4, l_ka_V4d, l_kr_V4d, l_ks_V4d, l_kp_V4d, l_kt_V4d, l_ka_W5, l_kr_W5, l_ks_W5, l_kp_W5, l_kt_W5] at n_kr
   have n_ks := congrArg (fun v : World => v.heap[g2]?) hV_V5
   simp (maxDischargeDepth := 9) only [BK, not_false_eq_true, reduceCtorEq, ka, kr, ks, kp, kt, l_ka_wr, l_kr_wr, l_ks_wr, l_kp_wr, l_kt_wr, ne1, ne2, ne3, ne4, ne5, ne6, l_ka_V4, l_kr_V4, l_ks_V4, l_kp_V4, l_kt_V4, l_ka_V4d, l_kr_V4d, l_ks_V4d, l_kp_V4d, l_kt_V4d, l_ka_W5, l_kr_W5, l_ks_W5, l_kp_W5, l_kt_W5] at n_ks
   have n_kp := congrArg (fun v : World => v.heap[W2.heap.size]?) hV_V5
   simp (maxDischargeDepth := 9) only [BK, not_false_eq_true, reduceCtorEq, ka, kr, ks, kp, kt, l_ka_wr, l_kr_wr, l_ks_wr, l_kp_wr, l_kt_wr, ne1, ne2, ne3, ne4, ne5, ne6, l_ka_V4, l_kr_V4, l_ks_V4, l_kp_V4, l_kt_V4, l_ka_V4d, l_kr_V4d, l_ks_V4d, l_kp_V4d, l_kt_V4d, l_ka_W5, l_kr_W5, l_ks_W5, l_kp_W5, l_kt_W5] at n_kp
   have n_kt := congrArg (fun v : World => v.heap[W2.heap.size + 1]?) hV_V5
   simp (maxDischargeDepth := 9) only [BK, not_false_eq_true, reduceCtorEq, ka, kr, ks, kp, kt, l_ka_wr, l_kr_wr, l_ks_wr, l_kp_wr, l_kt_wr, ne1, ne2, ne3, ne4, ne5, ne6, l_ka_V4, l_kr_V4, l_ks_V4, l_kp_V4, l_kt_V4, l_ka_V4d, l_kr_V4d, l_ks_V4d, l_kp_V4d, l_kt_V4d, l_ka_W5, l_kr_W5, l_ks_W5, l_kp_W5, l_kt_W5] at n_kt
   have n_F : Fr ((twoX W2.heap.size (W2.heap.size + 1))) O1 O2 wr V5 := nF hV_V5
   have n_A : AP V5 (.pointer q) r1.2.2 O2 := nA hV_V5
   have z_V5 := Nat.le_of_eq (congrArg (fun v : World => v.heap.size) hV_V5).symm
   try simp only [SZ] at z_V5
   clear ka c_ka f_ka
   clear kr c_kr f_kr
   clear ks c_ks f_ks
   clear kp c_kp f_kp
   clear kt c_kt f_kt
   clear hV_V5
   clear hA
   have hA := n_A
   clear n_A
   clear hF
   have hF := n_F
   clear n_F
   have ka := n_ka; clear n_ka
   have c_ka := cells_of ka
   have f_ka := free_of ka
   have l_ka_V5 := lt_of ka
   have kr := n_kr; clear n_kr
   have c_kr := cells_of kr
   have f_kr := free_of kr
   have l_kr_V5 := lt_of kr
   have ks := n_ks; clear n_ks
   have c_ks := cells_of ks
   have f_ks := free_of ks
   have l_ks_V5 := lt_of ks
   have kp := n_kp; clear n_kp
   have c_kp := cells_of kp
   have f_kp := free_of kp
   have l_kp_V5 := lt_of kp
   have kt := n_kt; clear n_kt
   have c_kt := cells_of kt
   have f_kt := free_of kt
   have l_kt_V5 := lt_of kt
   refine (next_t (W2.heap.size + 1) w.heap.size st.ok st.p.wave r1 t1 Ht1.out _ hA kt ka o_kt o_ka ne6).mono ?_
   rintro e_W6 W6 ⟨rfl, O3, hT_W6, hf_W6⟩
   have q_ka := hf_W6.keep ka o_ka (by unfold oneX; omega)
   have q_kr := hf_W6.keep kr o_kr (by unfold oneX; omega)
   have q_ks := hf_W6.keep ks o_ks (by unfold oneX; omega)
   have q_kp := hf_W6.keep kp o_kp (by unfold oneX; omega)
   replace o_ka := hf_W6.not_own (lt_of ka) o_ka
   clear ka; have ka := q_ka; clear q_ka
   have c_ka := cells_of ka
   have f_ka := free_of ka
   have l_ka_W6 := lt_of ka
   replace o_kr := hf_W6.not_own (lt_of kr) o_kr
   clear kr; have kr := q_kr; clear q_kr
   have c_kr := cells_of kr
   have f_kr := free_of kr
   have l_kr_W6 := lt_of kr
   replace o_ks := hf_W6.not_own (lt_of ks) o_ks
   clear ks; have ks := q_ks; clear q_ks
   have c_ks := cells_of ks
   have f_ks := free_of ks
   have l_ks_W6 := lt_of ks
   replace o_kp := hf_W6.not_own (lt_of kp) o_kp
   clear kp; have kp := q_kp; clear q_kp
   have c_kp := cells_of kp
   have f_kp := free_of kp
   have l_kp_W6 := lt_of kp
   clear kt c_kt f_kt o_kt; have kt := hT_W6.blk; have o_kt := hT_W6.no
   have c_kt := cells_of kt
   have f_kt := free_of kt
   have l_kt_W6 := lt_of kt
   replace hF := hF.trans (hf_W6.mono (fun x h => Or.inr h))
   have z_W6 := hf_W6.size
   clear hA hf_W6; have hA := hT_W6.hA; clear hT_W6
   go_wp2_with fail
   refine calls_gen fun V6 hV_V6 => ?_
   have n_ka := congrArg (fun v : World => v.heap[w.heap.size]?) hV_V6
   simp (maxDischargeDepth := 9) only [BK, not_false_eq_true, reduceCtorEq, ka, kr, ks, kp, kt, l_ka_wr, l_kr_wr, l_ks_wr, l_kp_wr, l_kt_wr, ne1, ne2, ne3, ne4, ne5, ne6, l_ka_V4, l_kr_V4, l_ks_V4, l_kp_V4, l_kt_V4, l_ka_V4d, l_kr_V4d, l_ks_V4d, l_kp_V4d, l_kt_V4d, l_ka_W5, l_kr_W5, l_ks_W5, l_kp_W5, l_kt_W5, l_ka_V5, l_kr_V5, l_ks_V5, l_kp_V5, l_kt_V5, l_ka_W6, l_kr_W6, l_ks_W6, l_kp_W6, l_kt_W6] at n_ka
   have n_kr := congrArg (fun v : World => v.heap[g1]?) hV_V6
   simp (maxDischargeDepth := 9) only [BK, not_false_eq_true, reduceCtorEq, ka, kr, ks, kp, kt, l_ka_wr, l_kr_wr, l_ks_wr, l_kp_wr, l_kt_wr, ne1, ne2, ne3, ne4, ne5, ne6, l_ka_V4, l_kr_V4, l_ks_V4, l_kp_V4, l_kt_V4, l_ka_V4d, l_kr_V4d, l_ks_V4d, l_kp_V4d, l_kt_V4d, l_ka_W5, l_kr_W5, l_ks_W5, l_kp_W5, l_kt_W5, l_ka_V5, l_kr_V5, l_ks_V5, l_kp_V5, l_kt_V5, l_ka_W6, l_kr_W6, l_ks_W6, l_kp_W6, l_kt_W6] at n_kr
   have n_ks := congrArg (fun v : World => v.heap[g2]?) hV_V6
   simp (maxDischargeDepth := 9) only [BK, not_false_eq_true, reduceCtorEq, ka, kr, ks, kp, kt, l_ka_wr, l_kr_wr, l_ks_wr, l_kp_wr, l_kt_wr, ne1, ne2, ne3, ne4, ne5, ne6, l_ka_V4, l_kr_V4, l_ks_V4, l_kp_V4, l_kt_V4, l_ka_V4d, l_kr_V4d, l_ks_V4d, l_kp_V4d, l_kt_V4d, l_ka_W5, l_kr_W5, l_ks_W5, l_kp_W5, l_kt_W5, l_ka_V5, l_kr_V5, l_ks_V5, l_kp_V5, l_kt_V5, l_ka_W6, l_kr_W6, l_ks_W6, l_kp_W6, l_kt_W6] at n_ks
   have n_kp := congrArg (fun v : World => v.heap[W2.heap.size]?) hV_V6
   simp (maxDischargeDepth := 9) only [BK, not_false_eq_true, reduceCtorEq, ka, kr, ks, kp, kt, l_ka_wr, l_kr_wr, l_ks_wr, l_kp_wr, l_kt_wr, ne1, ne2, ne3, ne4, ne5, ne6, l_ka_V4, l_kr_V4, l_ks_V4, l_kp_V4, l_kt_V4, l_ka_V4d, l_kr_V4d, l_ks_V4d, l_kp_V4d, l_kt_V4d, l_ka_W5, l_kr_W5, l_ks_W5, l_kp_W5, l_kt_W5, l_ka_V5, l_kr_V5, l_ks_V5, l_kp_V5, l_kt_V5, l_ka_W6, l_kr_W6, l_ks_W6, l_kp_W6, l_kt_W6] at n_kp
   have n_kt := congrArg (fun v : World => v.heap[W2.heap.size + 1]?) hV_V6
   simp (maxDischargeDepth := 9) only [BK, not_false_eq_true, reduceCtorEq, ka, kr, ks, kp, kt, l_ka_wr, l_kr_wr, l_ks_wr, l_kp_wr, l_kt_wr, ne1, ne2, ne3, ne4, ne5, ne6, l_ka_V4, l_kr_V4, l_ks_V4, l_kp_V4, l_kt_V4, l_ka_V4d, l_kr_V4d, l_ks_V4d, l_kp_V4d, l_kt_V4d, l_ka_W5, l_kr_W5, l_ks_W5, l_kp_W5, l_kt_W5, l_ka_V5, l_kr_V5, l_ks_V5, l_kp_V5, l_kt_V5, l_ka_W6, l_kr_W6, l_ks_W6, l_kp_W6, l_kt_W6] at n_kt
   have n_F : Fr ((twoX W2.heap.size (W2.heap.size + 1))) O1 O3 wr V6 := nF hV_V6
   have n_A : AP V6 (.pointer q) ((⟨t1.2.2, 0⟩ : Tb)).s O3 := nA hV_V6
   have z_V6 := Nat.le_of_eq (congrArg (fun v : World => v.heap.size) hV_V6).symm
   try simp only [SZ] at z_V6
   clear ka c_ka f_ka
   clear kr c_kr f_kr
   clear ks c_ks f_ks
   clear kp c_kp f_kp
   clear kt c_kt f_kt
   clear hV_V6
   clear hA
   have hA := n_A
   clear n_A
   clear hF
   have hF := n_F
   clear n_F
   have ka := n_ka; clear n_ka
   have c_ka := cells_of ka
   have f_ka := free_of ka
   have l_ka_V6 := lt_of ka
   have kr := n_kr; clear n_kr
   have c_kr := cells_of kr
   have f_kr := free_of kr
   have l_kr_V6 := lt_of kr
   have ks := n_ks; clear n_ks
   have c_ks := cells_of ks
   have f_ks := free_of ks
   have l_ks_V6 := lt_of ks
   have kp := n_kp; clear n_kp
   have c_kp := cells_of kp
   have f_kp := free_of kp
   have l_kp_V6 := lt_of kp
   have kt := n_kt; clear n_kt
   have c_kt := cells_of kt
   have f_kt := free_of kt
   have l_kt_V6 := lt_of kt
   have hadlt : ad.block < w.heap.size := by
    obtain ⟨A, c, hv, hc⟩ := HD.out
    obtain ⟨rfl, -, rfl⟩ := Value.slice.inj hv
    obtain ⟨ad', ha, hlt, -⟩ := hc hlen
    obtain rfl := Option.some.inj ha
    exact hlt
   have hX : ¬ twoX W2.heap.size (W2.heap.size + 1) ad.block := by unfold twoX; omega
   by_cases hm : (r.2 : Int) % rate = 0
   ·
    have m1 : ((r.2 : Int) % rate == 0) = true := by rw [hm]; rfl
    have hst := Hst2.out
    rw [if_pos hm] at hst
    obtain ⟨r3, hr3', hst⟩ := Option.bind_eq_some_iff.1 hst
    obtain ⟨u, hu, hst⟩ := Option.map_eq_some_iff.1 hst
    obtain ⟨t3, ht3⟩ : ∃ t, nextA t2.2.1 st.p.spots r3 = t := ⟨_, rfl⟩
    rw [ht3] at hu hst
    have Hr3 := Lib.hid hr3'; have Hu := Lib.hid hu; have Hst := Lib.hid hst; have Ht3 := Lib.hid ht3; have Hm := Lib.hid hm
    have e2 : decide ((r.2 : Int) % rate = 0) = ((r.2 : Int) % rate == 0) := rfl
    have Hr2' : Hid (bInsert t1.2.2 st.p.marks (i : Int) ((r.2 : Int) % rate == 0) = some r2) := Lib.hid Hr2.out
    rw [m1] at Hr2' ⊢
    clear hst hr3' hu ht3 hm e2
    refine (bInsert_calls (s := t1.2.2) _ _ _ r2 Hr2'.out _ hA).mono ?_
    rintro e_W7 W7 ⟨rfl, O4, hA_W7, hf_W7⟩
    have q_ka := hf_W7.keep ka o_ka (fun h => h)
    have q_kr := hf_W7.keep kr o_kr (fun h => h)
    have q_ks := hf_W7.keep ks o_ks (fun h => h)
    have q_kp := hf_W7.keep kp o_kp (fun h => h)
    have q_kt := hf_W7.keep kt o_kt (fun h => h)
    replace o_ka := hf_W7.not_own (lt_of ka) o_ka
    clear ka; have ka := q_ka; clear q_ka
    have c_ka := cells_of ka
    have f_ka := free_of ka
    have l_ka_W7 := lt_of ka
    replace o_kr := hf_W7.not_own (lt_of kr) o_kr
    clear kr; have kr := q_kr; clear q_kr
    have c_kr := cells_of kr
    have f_kr := free_of kr
    have l_kr_W7 := lt_of kr
    replace o_ks := hf_W7.not_own (lt_of ks) o_ks
    clear ks; have ks := q_ks; clear q_ks
    have c_ks := cells_of ks
    have f_ks := free_of ks
    have l_ks_W7 := lt_of ks
    replace o_kp := hf_W7.not_own (lt_of kp) o_kp
    clear kp; have kp := q_kp; clear q_kp
    have c_kp := cells_of kp
    have f_kp := free_of kp
    have l_kp_W7 := lt_of kp
    replace o_kt := hf_W7.not_own (lt_of kt) o_kt
    clear kt; have kt := q_kt; clear q_kt
    have c_kt := cells_of kt
    have f_kt := free_of kt
    have l_kt_W7 := lt_of kt
    replace hF := hF.trans hf_W7.widen
    have z_W7 := hf_W7.size
    clear hA hf_W7; have hA := hA_W7; clear hA_W7
    go_wp2_with fail
    refine calls_gen fun V7 hV_V7 => ?_
    have n_ka := congrArg (fun v : World => v.heap[w.heap.size]?) hV_V7
    simp (maxDischargeDepth := 9) only [BK, not_false_eq_true, reduceCtorEq, ka, kr, ks, kp, kt, l_ka_wr, l_kr_wr, l_ks_wr, l_kp_wr, l_kt_wr, ne1, ne2, ne3, ne4, ne5, ne6, l_ka_V4, l_kr_V4, l_ks_V4, l_kp_V4, l_kt_V4, l_ka_V4d, l_kr_V4d, l_ks_V4d, l_kp_V4d, l_kt_V4d, l_ka_W5, l_kr_W5, l_ks_W5, l_kp_W5, l_kt_W5, l_ka_V5, l_kr_V5, l_ks_V5, l_kp_V5, l_kt_V5, l_ka_W6, l_kr_W6, l_ks_W6, l_kp_W6, l_kt_W6, l_ka_V6, l_kr_V6, l_ks_V6, l_kp_V6, l_kt_V6, l_ka_W7, l_kr_W7, l_ks_W7, l_kp_W7, l_kt_W7] at n_ka
    have n_kr := congrArg (fun v : World => v.heap[g1]?) hV_V7
    simp (maxDischargeDepth := 9) only [BK, not_false_eq_true, reduceCtorEq, ka, kr, ks, kp, kt, l_ka_wr, l_kr_wr, l_ks_wr, l_kp_wr, l_kt_wr, ne1, ne2, ne3, ne4, ne5, ne6, l_ka_V4, l_kr_V4, l_ks_V4, l_kp_V4, l_kt_V4, l_ka_V4d, l_kr_V4d, l_ks_V4d, l_kp_V4d, l_kt_V4d, l_ka_W5, l_kr_W5, l_ks_W5, l_kp_W5, l_kt_W5, l_ka_V5, l_kr_V5, l_ks_V5, l_kp_V5, l_kt_V5, l_ka_W6, l_kr_W6, l_ks_W6, l_kp_W6, l_kt_W6, l_ka_V6, l_kr_V6, l_ks_V6, l_kp_V6, l_kt_V6, l_ka_W7, l_kr_W7, l_ks_W7, l_kp_W7, l_kt_W7] at n_kr
    have n_ks := congrArg (fun v : World => v.heap[g2]?) hV_V7
    simp (maxDischargeDepth := 9) only [BK, not_false_eq_true, reduceCtorEq, ka, kr, ks, kp, kt, l_ka_wr, l_kr_wr, l_ks_wr, l_kp_wr, l_kt_wr, ne1, ne2, ne3, ne4, ne5, ne6, l_ka_V4, l_kr_V4, l_ks_V4, l_kp_V4, l_kt_V4, l_ka_V4d, l_kr_V4d, l_ks_V4d, l_kp_V4d, l_kt_V4d, l_ka_W5, l_kr_W5, l_ks_W5, l_kp_W5, l_kt_W5, l_ka_V5, l_kr_V5, l_ks_V5, l_kp_V5, l_kt_V5, l_ka_W6, l_kr_W6, l_ks_W6, l_kp_W6, l_kt_W6, l_ka_V6, l_kr_V6, l_ks_V6, l_kp_V6, l_kt_V6, l_ka_W7, l_kr_W7, l_ks_W7, l_kp_W7, l_kt_W7] at n_ks
    have n_kp := congrArg (fun v : World => v.heap[W2.heap.size]?) hV_V7
    simp (maxDischargeDepth := 9) only [BK, not_false_eq_true, reduceCtorEq, ka, kr, ks, kp, kt, l_ka_wr, l_kr_wr, l_ks_wr, l_kp_wr, l_kt_wr, ne1, ne2, ne3, ne4, ne5, ne6, l_ka_V4, l_kr_V4, l_ks_V4, l_kp_V4, l_kt_V4, l_ka_V4d, l_kr_V4d, l_ks_V4d, l_kp_V4d, l_kt_V4d, l_ka_W5, l_kr_W5, l_ks_W5, l_kp_W5, l_kt_W5, l_ka_V5, l_kr_V5, l_ks_V5, l_kp_V5, l_kt_V5, l_ka_W6, l_kr_W6, l_ks_W6, l_kp_W6, l_kt_W6, l_ka_V6, l_kr_V6, l_ks_V6, l_kp_V6, l_kt_V6, l_ka_W7, l_kr_W7, l_ks_W7, l_kp_W7, l_kt_W7] at n_kp
    have n_kt := congrArg (fun v : World => v.heap[W2.heap.size + 1]?) hV_V7
    simp (maxDischargeDepth := 9) only [BK, not_false_eq_true, reduceCtorEq, ka, kr, ks, kp, kt, l_ka_wr, l_kr_wr, l_ks_wr, l_kp_wr, l_kt_wr, ne1, ne2, ne3, ne4, ne5, ne6, l_ka_V4, l_kr_V4, l_ks_V4, l_kp_V4, l_kt_V4, l_ka_V4d, l_kr_V4d, l_ks_V4d, l_kp_V4d, l_kt_V4d, l_ka_W5, l_kr_W5, l_ks_W5, l_kp_W5, l_kt_W5, l_ka_V5, l_kr_V5, l_ks_V5, l_kp_V5, l_kt_V5, l_ka_W6, l_kr_W6, l_ks_W6, l_kp_W6, l_kt_W6, l_ka_V6, l_kr_V6, l_ks_V6, l_kp_V6, l_kt_V6, l_ka_W7, l_kr_W7, l_ks_W7, l_kp_W7, l_kt_W7] at n_kt
    have n_F : Fr ((twoX W2.heap.size (W2.heap.size + 1))) O1 O4 wr V7 := nF hV_V7
    have n_A : AP V7 (.pointer q) r2.2.2 O4 := nA hV_V7
    have z_V7 := Nat.le_of_eq (congrArg (fun v : World => v.heap.size) hV_V7).symm
    try simp only [SZ] at z_V7
    clear ka c_ka f_ka
    clear kr c_kr f_kr
    clear ks c_ks f_ks
    clear kp c_kp f_kp
    clear kt c_kt f_kt
    clear hV_V7
    clear hA
    have hA := n_A
    clear n_A
    clear hF
    have hF := n_F
    clear n_F
    have ka := n_ka; clear n_ka
    have c_ka := cells_of ka
    have f_ka := free_of ka
    have l_ka_V7 := lt_of ka
    have kr := n_kr; clear n_kr
    have c_kr := cells_of kr
    have f_kr := free_of kr
    have l_kr_V7 := lt_of kr
    have ks := n_ks; clear n_ks
    have c_ks := cells_of ks
    have f_ks := free_of ks
    have l_ks_V7 := lt_of ks
    have kp := n_kp; clear n_kp
    have c_kp := cells_of kp
    have f_kp := free_of kp
    have l_kp_V7 := lt_of kp
    have kt := n_kt; clear n_kt
    have c_kt := cells_of kt
    have f_kt := free_of kt
    have l_kt_V7 := lt_of kt
    refine (next_t (W2.heap.size + 1) w.heap.size t1.2.1 st.p.marks r2 t2 Ht2.out _ hA kt ka o_kt o_ka ne6).mono ?_
    rintro e_W8 W8 ⟨rfl, O5, hT_W8, hf_W8⟩
    have q_ka := hf_W8.keep ka o_ka (by unfold oneX; omega)
    have q_kr := hf_W8.keep kr o_kr (by unfold oneX; omega)
    have q_ks := hf_W8.keep ks o_ks (by unfold oneX; omega)
    have q_kp := hf_W8.keep kp o_kp (by unfold oneX; omega)
    replace o_ka := hf_W8.not_own (lt_of ka) o_ka
    clear ka; have ka := q_ka; clear q_ka
    have c_ka := cells_of ka
    have f_ka := free_of ka
    have l_ka_W8 := lt_of ka
    replace o_kr := hf_W8.not_own (lt_of kr) o_kr
    clear kr; have kr := q_kr; clear q_kr
    have c_kr := cells_of kr
    have f_kr := free_of kr
    have l_kr_W8 := lt_of kr
    replace o_ks := hf_W8.not_own (lt_of ks) o_ks
    clear ks; have ks := q_ks; clear q_ks
    have c_ks := cells_of ks
    have f_ks := free_of ks
    have l_ks_W8 := lt_of ks
    replace o_kp := hf_W8.not_own (lt_of kp) o_kp
    clear kp; have kp := q_kp; clear q_kp
    have c_kp := cells_of kp
    have f_kp := free_of kp
    have l_kp_W8 := lt_of kp
    clear kt c_kt f_kt o_kt; have kt := hT_W8.blk; have o_kt := hT_W8.no
    have c_kt := cells_of kt
    have f_kt := free_of kt
    have l_kt_W8 := lt_of kt
    replace hF := hF.trans (hf_W8.mono (fun x h => Or.inr h))
    have z_W8 := hf_W8.size
    clear hA hf_W8; have hA := hT_W8.hA; clear hT_W8
    go_wp2_with fail
    refine wp_gen fun V8 hV_V8 => ?_
    have n_ka := congrArg (fun v : World => v.heap[w.heap.size]?) hV_V8
    simp (maxDischargeDepth := 9) only [BK, not_false_eq_true, reduceCtorEq, ka, kr, ks, kp, kt, l_ka_wr, l_kr_wr, l_ks_wr, l_kp_wr, l_kt_wr, ne1, ne2, ne3, ne4, ne5, ne6, l_ka_V4, l_kr_V4, l_ks_V4, l_kp_V4, l_kt_V4, l_ka_V4d, l_kr_V4d, l_ks_V4d, l_kp_V4d, l_kt_V4d, l_ka_W5, l_kr_W5, l_ks_W5, l_kp_W5, l_kt_W5, l_ka_V5, l_kr_V5, l_ks_V5, l_kp_V5, l_kt_V5, l_ka_W6, l_kr_W6, l_ks_W6, l_kp_W6, l_kt_W6, l_ka_V6, l_kr_V6, l_ks_V6, l_kp_V6, l_kt_V6, l_ka_W7, l_kr_W7, l_ks_W7, l_kp_W7, l_kt_W7, l_ka_V7, l_kr_V7, l_ks_V7, l_kp_V7, l_kt_V7, l_ka_W8, l_kr_W8, l_ks_W8, l_kp_W8, l_kt_W8] at n_ka
    have n_kr := congrArg (fun v : World => v.heap[g1]?) hV_V8
    simp (maxDischargeDepth := 9) only [BK, not_false_eq_true, reduceCtorEq, ka, kr, ks, kp, kt, l_ka_wr, l_kr_wr, l_ks_wr, l_kp_wr, l_kt_wr, ne1, ne2, ne3, ne4, ne5, ne6, l_ka_V4, l_kr_V4, l_ks_V4, l_kp_V4, l_kt_V4, l_ka_V4d, l_kr_V4d, l_ks_V4d, l_kp_V4d, l_kt_V4d, l_ka_W5, l_kr_W5, l_ks_W5, l_kp_W5, l_kt_W5, l_ka_V5, l_kr_V5, l_ks_V5, l_kp_V5, l_kt_V5, l_ka_W6, l_kr_W6, l_ks_W6, l_kp_W6, l_kt_W6, l_ka_V6, l_kr_V6, l_ks_V6, l_kp_V6, l_kt_V6, l_ka_W7, l_kr_W7, l_ks_W7, l_kp_W7, l_kt_W7, l_ka_V7, l_kr_V7, l_ks_V7, l_kp_V7, l_kt_V7, l_ka_W8, l_kr_W8, l_ks_W8, l_kp_W8, l_kt_W8] at n_kr
    have n_ks := congrArg (fun v : World => v.heap[g2]?) hV_V8
    simp (maxDischargeDepth := 9) only [BK, not_false_eq_true, reduceCtorEq, ka, kr, ks, kp, kt, l_ka_wr, l_kr_wr, l_ks_wr, l_kp_wr, l_kt_wr, ne1, ne2, ne3, ne4, ne5, ne6, l_ka_V4, l_kr_V4, l_ks_V4, l_kp_V4, l_kt_V4, l_ka_V4d, l_kr_V4d, l_ks_V4d, l_kp_V4d, l_kt_V4d, l_ka_W5, l_kr_W5, l_ks_W5, l_kp_W5, l_kt_W5, l_ka_V5, l_kr_V5, l_ks_V5, l_kp_V5, l_kt_V5, l_ka_W6, l_kr_W6, l_ks_W6, l_kp_W6, l_kt_W6, l_ka_V6, l_kr_V6, l_ks_V6, l_kp_V6, l_kt_V6, l_ka_W7, l_kr_W7, l_ks_W7, l_kp_W7, l_kt_W7, l_ka_V7, l_kr_V7, l_ks_V7, l_kp_V7, l_kt_V7, l_ka_W8, l_kr_W8, l_ks_W8, l_kp_W8, l_kt_W8] at n_ks
    have n_kp := congrArg (fun v : World => v.heap[W2.heap.size]?) hV_V8
    simp (maxDischargeDepth := 9) only [BK, not_false_eq_true, reduceCtorEq, ka, kr, ks, kp, kt, l_ka_wr, l_kr_wr, l_ks_wr, l_kp_wr, l_kt_wr, ne1, ne2, ne3, ne4, ne5, ne6, l_ka_V4, l_kr_V4, l_ks_V4, l_kp_V4, l_kt_V4, l_ka_V4d, l_kr_V4d, l_ks_V4d, l_kp_V4d, l_kt_V4d, l_ka_W5, l_kr_W5, l_ks_W5, l_kp_W5, l_kt_W5, l_ka_V5, l_kr_V5, l_ks_V5, l_kp_V5, l_kt_V5, l_ka_W6, l_kr_W6, l_ks_W6, l_kp_W6, l_kt_W6, l_ka_V6, l_kr_V6, l_ks_V6, l_kp_V6, l_kt_V6, l_ka_W7, l_kr_W7, l_ks_W7, l_kp_W7, l_kt_W7, l_ka_V7, l_kr_V7, l_ks_V7, l_kp_V7, l_kt_V7, l_ka_W8, l_kr_W8, l_ks_W8, l_kp_W8, l_kt_W8] at n_kp
    have n_kt := congrArg (fun v : World => v.heap[W2.heap.size + 1]?) hV_V8
    simp (maxDischargeDepth := 9) only [BK, not_false_eq_true, reduceCtorEq, ka, kr, ks, kp, kt, l_ka_wr, l_kr_wr, l_ks_wr, l_kp_wr, l_kt_wr, ne1, ne2, ne3, ne4, ne5, ne6, l_ka_V4, l_kr_V4, l_ks_V4, l_kp_V4, l_kt_V4, l_ka_V4d, l_kr_V4d, l_ks_V4d, l_kp_V4d, l_kt_V4d, l_ka_W5, l_kr_W5, l_ks_W5, l_kp_W5, l_kt_W5, l_ka_V5, l_kr_V5, l_ks_V5, l_kp_V5, l_kt_V5, l_ka_W6, l_kr_W6, l_ks_W6, l_kp_W6, l_kt_W6, l_ka_V6, l_kr_V6, l_ks_V6, l_kp_V6, l_kt_V6, l_ka_W7, l_kr_W7, l_ks_W7, l_kp_W7, l_kt_W7, l_ka_V7, l_kr_V7, l_ks_V7, l_kp_V7, l_kt_V7, l_ka_W8, l_kr_W8, l_ks_W8, l_kp_W8, l_kt_W8] at n_kt
    have n_F : Fr ((twoX W2.heap.size (W2.heap.size + 1))) O1 O5 wr V8 := nF hV_V8
    have n_A : AP V8 (.pointer q) ((⟨t2.2.2, 0⟩ : Tb)).s O5 := nA hV_V8
    have z_V8 := Nat.le_of_eq (congrArg (fun v : World => v.heap.size) hV_V8).symm
    try simp only [SZ] at z_V8
    clear ka c_ka f_ka
    clear kr c_kr f_kr
    clear ks c_ks f_ks
    clear kp c_kp f_kp
    clear kt c_kt f_kt
    clear hV_V8
    clear hA
    have hA := n_A
    clear n_A
    clear hF
    have hF := n_F
    clear n_F
    have ka := n_ka; clear n_ka
    have c_ka := cells_of ka
    have f_ka := free_of ka
    have l_ka_V8 := lt_of ka
    have kr := n_kr; clear n_kr
    have c_kr := cells_of kr
    have f_kr := free_of kr
    have l_kr_V8 := lt_of kr
    have ks := n_ks; clear n_ks
    have c_ks := cells_of ks
    have f_ks := free_of ks
    have l_ks_V8 := lt_of ks
    have kp := n_kp; clear n_kp
    have c_kp := cells_of kp
    have f_kp := free_of kp
    have l_kp_V8 := lt_of kp
    have kt := n_kt; clear n_kt
    have c_kt := cells_of kt
    have f_kt := free_of kt
    have l_kt_V8 := lt_of kt
    obtain ⟨c_d_lt, c_d, -⟩ : (ad.add (r.1 * 2)).block < V8.heap.size ∧ V8.cell? (ad.add (r.1 * 2)) = some (.int .i64 d.1) ∧ True := by
     obtain ⟨A, c, hv, hc⟩ := hdoc.out.fr hF oD hX
     obtain ⟨rfl, -, rfl⟩ := Value.slice.inj hv
     obtain ⟨ad', ha, hlt, hc⟩ := hc hlen
     obtain rfl := Option.some.inj ha
     obtain ⟨q1, q2, -⟩ := hc r.1 d Hd.out
     exact ⟨q1, q2, trivial⟩
    have c_d_no : ¬ O5 (ad.add (r.1 * 2)).block := by
     rw [block_of_add]
     exact hF.not_own (by have := hF.size; omega) oD
    refine wp_region_noPanic ?_
    refine wp_region_held_drew (S := fun v => (v.cell? (ad.add (r.1 * 2)) = some (.int .i64 d.1)) ∧ (∀ o, v.cell? ⟨w.heap.size, o, none⟩ = V8.cell? ⟨w.heap.size, o, none⟩) ∧ (∀ o, v.cell? ⟨g1, o, none⟩ = V8.cell? ⟨g1, o, none⟩) ∧ (∀ o, v.cell? ⟨g2, o, none⟩ = V8.cell? ⟨g2, o, none⟩) ∧ (∀ o, v.cell? ⟨W2.heap.size, o, none⟩ = V8.cell? ⟨W2.heap.size, o, none⟩) ∧ (∀ o, v.cell? ⟨W2.heap.size + 1, o, none⟩ = V8.cell? ⟨W2.heap.size + 1, o, none⟩) ∧ (V8.heap.size ≤ v.heap.size) ∧ True) (by kernel_rfl) ⟨c_d, (fun _ => rfl), (fun _ => rfl), (fun _ => rfl), (fun _ => rfl), (fun _ => rfl), (Nat.le_refl _), trivial⟩ (fun hHeld => ?_)
    generalize hV_V8d : V8.drew = V8d at hHeld ⊢
    have n_ka : V8d.heap[w.heap.size]? = V8.heap[w.heap.size]? := by rw [← hV_V8d]; rfl
    have d_ka := n_ka.trans ka
    clear n_ka c_ka f_ka
    have n_kr : V8d.heap[g1]? = V8.heap[g1]? := by rw [← hV_V8d]; rfl
    have d_kr := n_kr.trans kr
    clear n_kr c_kr f_kr
    have n_ks : V8d.heap[g2]? = V8.heap[g2]? := by rw [← hV_V8d]; rfl
    have d_ks := n_ks.trans ks
    clear n_ks c_ks f_ks
    have n_kp : V8d.heap[W2.heap.size]? = V8.heap[W2.heap.size]? := by rw [← hV_V8d]; rfl
    have d_kp := n_kp.trans kp
    clear n_kp c_kp f_kp
    have n_kt : V8d.heap[W2.heap.size + 1]? = V8.heap[W2.heap.size + 1]? := by rw [← hV_V8d]; rfl
    have d_kt := n_kt.trans kt
    clear n_kt c_kt f_kt
    replace c_d : V8d.cell? (ad.add (r.1 * 2)) = some (.int .i64 d.1) := by rw [← hV_V8d]; exact c_d
    replace c_d_lt : ((ad.add (r.1 * 2))).block < V8d.heap.size := by rw [← hV_V8d]; exact c_d_lt
    have n_A : AP V8d (.pointer q) ((⟨t2.2.2, 0⟩ : Tb)).s O5 := by rw [← hV_V8d]; exact hA.drew
    clear hA; have hA := n_A; clear n_A
    have n_F : Fr ((twoX W2.heap.size (W2.heap.size + 1))) O1 O5 wr V8d := by rw [← hV_V8d]; exact hF.drew
    clear hF; have hF := n_F; clear n_F
    have z_V8d : V8.heap.size ≤ V8d.heap.size := by rw [← hV_V8d]; exact Nat.le_refl _
    have v_ka := cells_of ka
    have v_kr := cells_of kr
    have v_ks := cells_of ks
    have v_kp := cells_of kp
    have v_kt := cells_of kt
    clear ka; have ka := d_ka; clear d_ka
    clear kr; have kr := d_kr; clear d_kr
    clear ks; have ks := d_ks; clear d_ks
    clear kp; have kp := d_kp; clear d_kp
    clear kt; have kt := d_kt; clear d_kt
    have c_ka := cells_of ka
    have f_ka := free_of ka
    have l_ka_V8d := lt_of ka
    have c_kr := cells_of kr
    have f_kr := free_of kr
    have l_kr_V8d := lt_of kr
    have c_ks := cells_of ks
    have f_ks := free_of ks
    have l_ks_V8d := lt_of ks
    have c_kp := cells_of kp
    have f_kp := free_of kp
    have l_kp_V8d := lt_of kp
    have c_kt := cells_of kt
    have f_kt := free_of kt
    have l_kt_V8d := lt_of kt
    clear hV_V8d
    refine ty (i := 0) (v := ?_) rfl hHeld ?_ ?_
    rotate_left
    focus (intro w hSw; go_simp; (try simp only [IntWalk.i64_left]); try (with_reducible rfl))
    try simp only [PT]
    refine ty (i := 1) (v := ?_) rfl hHeld ?_ ?_
    rotate_left
    focus (intro w hSw; go_simp; (try simp only [IntWalk.i64_left]); try (with_reducible rfl))
    try simp only [PT]
    refine ty (i := 2) (v := ?_) rfl hHeld ?_ ?_
    rotate_left
    focus (intro w hSw; go_simp; (try simp only [IntWalk.i64_left]); try (with_reducible rfl))
    try simp only [PT]
    refine ty (i := 3) (v := ?_) rfl hHeld ?_ ?_
    rotate_left
    focus (intro w hSw; go_simp; (try simp only [IntWalk.i64_left]); try (with_reducible rfl))
    try simp only [PT]
    refine ty (i := 4) (v := ?_) rfl hHeld ?_ ?_
    rotate_left
    focus (intro w hSw; go_simp; (try simp only [IntWalk.i64_left]); try (with_reducible rfl))
    try simp only [PT]
    refine ty (i := 5) (v := ?_) rfl hHeld ?_ ?_
    rotate_left
    focus (intro w hSw; go_simp; (try simp only [IntWalk.i64_left]); try (with_reducible rfl))
    try simp only [PT]
    refine ty (i := 6) (v := ?_) rfl hHeld ?_ ?_
    rotate_left
    focus (intro w hSw; go_simp; (try simp only [IntWalk.i64_left]); try (with_reducible rfl))
    try simp only [PT]
    refine ty (i := 7) (v := ?_) rfl hHeld ?_ ?_
    rotate_left
    focus (intro w hSw; go_simp; (try simp only [IntWalk.i64_left]); try (with_reducible rfl))
    try simp only [PT]
    refine ty (i := 8) (v := ?_) rfl hHeld ?_ ?_
    rotate_left
    focus (intro w hSw; go_simp; (try simp only [IntWalk.i64_left]); try (with_reducible rfl))
    try simp only [PT]
    refine ty (i := 9) (v := ?_) rfl hHeld ?_ ?_
    rotate_left
    focus (intro w hSw; go_simp; (try simp only [IntWalk.i64_left]); try (with_reducible rfl))
    try simp only [PT]
    refine ty (i := 10) (v := ?_) rfl hHeld ?_ ?_
    rotate_left
    focus (intro w hSw; go_simp; (try simp only [IntWalk.i64_left]); try (with_reducible rfl))
    try simp only [PT]
    refine ty (i := 11) (v := ?_) rfl hHeld ?_ ?_
    rotate_left
    focus (intro w hSw; go_simp; (try simp only [IntWalk.i64_left]); try (with_reducible rfl))
    try simp only [PT]
    refine ty (i := 12) (v := ?_) rfl hHeld ?_ ?_
    rotate_left
    focus (intro w hSw; go_simp; (try simp only [IntWalk.i64_left]); try (with_reducible rfl))
    try simp only [PT]
    refine ty (i := 13) (v := ?_) rfl hHeld ?_ ?_
    rotate_left
    focus (intro w hSw; go_simp; (try simp only [IntWalk.i64_left]); try (with_reducible rfl))
    try simp only [PT]
    refine ty (i := 14) (v := ?_) rfl hHeld ?_ ?_
    rotate_left
    focus (intro w hSw; go_simp; (try simp only [IntWalk.i64_left]); try (with_reducible rfl))
    try simp only [PT]
    refine ty (i := 15) (v := ?_) rfl hHeld ?_ ?_
    rotate_left
    focus (intro w hSw; go_simp; (try simp only [IntWalk.i64_left]); try (with_reducible rfl))
    try simp only [PT]
    refine ty (i := 16) (v := ?_) rfl hHeld ?_ ?_
    rotate_left
    focus (intro w hSw; go_simp; (try simp only [IntWalk.i64_left]); try (with_reducible rfl))
    try simp only [PT]
    refine ty (i := 17) (v := ?_) rfl hHeld ?_ ?_
    rotate_left
    focus (intro w hSw; go_simp; (try simp only [IntWalk.i64_left]); try (with_reducible rfl))
    try simp only [PT]
    refine ty (i := 18) (v := ?_) rfl hHeld ?_ ?_
    rotate_left
    focus (intro w hSw; go_simp; (try simp only [IntWalk.i64_left]); try (with_reducible rfl))
    try simp only [PT]
    refine wpAnyH_ready (rs := [19]) (by kernel_rfl) (by simp) ?_
    refine ready_at rfl (fun K hK => ?_) AllReadyH.nil
    go_simp
    try simp only [IntWalk.i64_left]
    refine (lInsert_calls (s := t2.2.2) _ _ (d.1, (r.2 : Int)) r3 Hr3.out _ hA).mono ?_
    rintro e_W9 W9 ⟨rfl, O6, hA_W9, hf_W9⟩
    have q_ka := hf_W9.keep ka o_ka (fun h => h)
    have q_kr := hf_W9.keep kr o_kr (fun h => h)
    have q_ks := hf_W9.keep ks o_ks (fun h => h)
    have q_kp := hf_W9.keep kp o_kp (fun h => h)
    have q_kt := hf_W9.keep kt o_kt (fun h => h)
    replace o_ka := hf_W9.not_own (lt_of ka) o_ka
    clear ka; have ka := q_ka; clear q_ka
    have c_ka := cells_of ka
    have f_ka := free_of ka
    have l_ka_W9 := lt_of ka
    replace o_kr := hf_W9.not_own (lt_of kr) o_kr
    clear kr; have kr := q_kr; clear q_kr
    have c_kr := cells_of kr
    have f_kr := free_of kr
    have l_kr_W9 := lt_of kr
    replace o_ks := hf_W9.not_own (lt_of ks) o_ks
    clear ks; have ks := q_ks; clear q_ks
    have c_ks := cells_of ks
    have f_ks := free_of ks
    have l_ks_W9 := lt_of ks
    replace o_kp := hf_W9.not_own (lt_of kp) o_kp
    clear kp; have kp := q_kp; clear q_kp
    have c_kp := cells_of kp
    have f_kp := free_of kp
    have l_kp_W9 := lt_of kp
    replace o_kt := hf_W9.not_own (lt_of kt) o_kt
    clear kt; have kt := q_kt; clear q_kt
    have c_kt := cells_of kt
    have f_kt := free_of kt
    have l_kt_W9 := lt_of kt
    replace c_d := (cell_same (hf_W9.block _ c_d_lt c_d_no (fun h => h))).trans c_d
    clear c_d_lt c_d_no
    replace hF := hF.trans hf_W9.widen
    have z_W9 := hf_W9.size
    clear hA hf_W9; have hA := hA_W9; clear hA_W9
    refine hK.out _ _ ⟨c_d, (fun o => (c_ka o).trans (v_ka o).symm), (fun o => (c_kr o).trans (v_kr o).symm), (fun o => (c_ks o).trans (v_ks o).symm), (fun o => (c_kp o).trans (v_kp o).symm), (fun o => (c_kt o).trans (v_kt o).symm), (by omega), trivial⟩ (fun hHeld => ?_)
    clear hK K
    try simp only [PT]
    refine ty (i := 20) (v := ?_) rfl hHeld ?_ ?_
    rotate_left
    focus (intro w hSw; go_simp; (try simp only [IntWalk.i64_left]); try (with_reducible rfl))
    try simp only [PT]
    refine ty (i := 21) (v := ?_) rfl hHeld ?_ ?_
    rotate_left
    focus (intro w hSw; go_simp; (try simp only [IntWalk.i64_left]); try (with_reducible rfl))
    try simp only [PT]
    refine ty (i := 22) (v := ?_) rfl hHeld ?_ ?_
    rotate_left
    focus (intro w hSw; go_simp; (try simp only [IntWalk.i64_left]); try (with_reducible rfl))
    try simp only [PT]
    refine wpAnyH_ready (rs := [23]) (by kernel_rfl) (by simp) ?_
    refine ready_at rfl (fun K hK => ?_) AllReadyH.nil
    go_simp
    refine hK.out _ _ hHeld (fun hHeld => ?_)
    clear hK K
    try simp only [PT]
    refine wpAnyH_ready (rs := [24]) (by kernel_rfl) (by simp) ?_
    refine ready_at rfl (fun K hK => ?_) AllReadyH.nil
    go_simp
    refine hK.out _ _ hHeld (fun hHeld => ?_)
    clear hK K
    try simp only [PT]
    refine wpAnyH_done (by kernel_rfl) ?_ _
    refine NoPanic.normal ?_
    go_wp2_with fail
    refine calls_gen fun V9 hV_V9 => ?_
    have n_ka := congrArg (fun v : World => v.heap[w.heap.size]?) hV_V9
    simp (maxDischargeDepth := 9) only [BK, not_false_eq_true, reduceCtorEq, ka, kr, ks, kp, kt, l_ka_wr, l_kr_wr, l_ks_wr, l_kp_wr, l_kt_wr, ne1, ne2, ne3, ne4, ne5, ne6, l_ka_V4, l_kr_V4, l_ks_V4, l_kp_V4, l_kt_V4, l_ka_V4d, l_kr_V4d, l_ks_V4d, l_kp_V4d, l_kt_V4d, l_ka_W5, l_kr_W5, l_ks_W5, l_kp_W5, l_kt_W5, l_ka_V5, l_kr_V5, l_ks_V5, l_kp_V5, l_kt_V5, l_ka_W6, l_kr_W6, l_ks_W6, l_kp_W6, l_kt_W6, l_ka_V6, l_kr_V6, l_ks_V6, l_kp_V6, l_kt_V6, l_ka_W7, l_kr_W7, l_ks_W7, l_kp_W7, l_kt_W7, l_ka_V7, l_kr_V7, l_ks_V7, l_kp_V7, l_kt_V7, l_ka_W8, l_kr_W8, l_ks_W8, l_kp_W8, l_kt_W8, l_ka_V8, l_kr_V8, l_ks_V8, l_kp_V8, l_kt_V8, l_ka_V8d, l_kr_V8d, l_ks_V8d, l_kp_V8d, l_kt_V8d, l_ka_W9, l_kr_W9, l_ks_W9, l_kp_W9, l_kt_W9] at n_ka
    have n_kr := congrArg (fun v : World => v.heap[g1]?) hV_V9
    simp (maxDischargeDepth := 9) only [BK, not_false_eq_true, reduceCtorEq, ka, kr, ks, kp, kt, l_ka_wr, l_kr_wr, l_ks_wr, l_kp_wr, l_kt_wr, ne1, ne2, ne3, ne4, ne5, ne6, l_ka_V4, l_kr_V4, l_ks_V4, l_kp_V4, l_kt_V4, l_ka_V4d, l_kr_V4d, l_ks_V4d, l_kp_V4d, l_kt_V4d, l_ka_W5, l_kr_W5, l_ks_W5, l_kp_W5, l_kt_W5, l_ka_V5, l_kr_V5, l_ks_V5, l_kp_V5, l_kt_V5, l_ka_W6, l_kr_W6, l_ks_W6, l_kp_W6, l_kt_W6, l_ka_V6, l_kr_V6, l_ks_V6, l_kp_V6, l_kt_V6, l_ka_W7, l_kr_W7, l_ks_W7, l_kp_W7, l_kt_W7, l_ka_V7, l_kr_V7, l_ks_V7, l_kp_V7, l_kt_V7, l_ka_W8, l_kr_W8, l_ks_W8, l_kp_W8, l_kt_W8, l_ka_V8, l_kr_V8, l_ks_V8, l_kp_V8, l_kt_V8, l_ka_V8d, l_kr_V8d, l_ks_V8d, l_kp_V8d, l_kt_V8d, l_ka_W9, l_kr_W9, l_ks_W9, l_kp_W9, l_kt_W9] at n_kr
    have n_ks := congrArg (fun v : World => v.heap[g2]?) hV_V9
    simp (maxDischargeDepth := 9) only [BK, not_false_eq_true, reduceCtorEq, ka, kr, ks, kp, kt, l_ka_wr, l_kr_wr, l_ks_wr, l_kp_wr, l_kt_wr, ne1, ne2, ne3, ne4, ne5, ne6, l_ka_V4, l_kr_V4, l_ks_V4, l_kp_V4, l_kt_V4, l_ka_V4d, l_kr_V4d, l_ks_V4d, l_kp_V4d, l_kt_V4d, l_ka_W5, l_kr_W5, l_ks_W5, l_kp_W5, l_kt_W5, l_ka_V5, l_kr_V5, l_ks_V5, l_kp_V5, l_kt_V5, l_ka_W6, l_kr_W6, l_ks_W6, l_kp_W6, l_kt_W6, l_ka_V6, l_kr_V6, l_ks_V6, l_kp_V6, l_kt_V6, l_ka_W7, l_kr_W7, l_ks_W7, l_kp_W7, l_kt_W7, l_ka_V7, l_kr_V7, l_ks_V7, l_kp_V7, l_kt_V7, l_ka_W8, l_kr_W8, l_ks_W8, l_kp_W8, l_kt_W8, l_ka_V8, l_kr_V8, l_ks_V8, l_kp_V8, l_kt_V8, l_ka_V8d, l_kr_V8d, l_ks_V8d, l_kp_V8d, l_kt_V8d, l_ka_W9, l_kr_W9, l_ks_W9, l_kp_W9, l_kt_W9] at n_ks
    have n_kp := congrArg (fun v : World => v.heap[W2.heap.size]?) hV_V9
    simp (maxDischargeDepth := 9) only [BK, not_false_eq_true, reduceCtorEq, ka, kr, ks, kp, kt, l_ka_wr, l_kr_wr, l_ks_wr, l_kp_wr, l_kt_wr, ne1, ne2, ne3, ne4, ne5, ne6, l_ka_V4, l_kr_V4, l_ks_V4, l_kp_V4, l_kt_V4, l_ka_V4d, l_kr_V4d, l_ks_V4d, l_kp_V4d, l_kt_V4d, l_ka_W5, l_kr_W5, l_ks_W5, l_kp_W5, l_kt_W5, l_ka_V5, l_kr_V5, l_ks_V5, l_kp_V5, l_kt_V5, l_ka_W6, l_kr_W6, l_ks_W6, l_kp_W6, l_kt_W6, l_ka_V6, l_kr_V6, l_ks_V6, l_kp_V6, l_kt_V6, l_ka_W7, l_kr_W7, l_ks_W7, l_kp_W7, l_kt_W7, l_ka_V7, l_kr_V7, l_ks_V7, l_kp_V7, l_kt_V7, l_ka_W8, l_kr_W8, l_ks_W8, l_kp_W8, l_kt_W8, l_ka_V8, l_kr_V8, l_ks_V8, l_kp_V8, l_kt_V8, l_ka_V8d, l_kr_V8d, l_ks_V8d, l_kp_V8d, l_kt_V8d, l_ka_W9, l_kr_W9, l_ks_W9, l_kp_W9, l_kt_W9] at n_kp
    have n_kt := congrArg (fun v : World => v.heap[W2.heap.size + 1]?) hV_V9
    simp (maxDischargeDepth := 9) only [BK, not_false_eq_true, reduceCtorEq, ka, kr, ks, kp, kt, l_ka_wr, l_kr_wr, l_ks_wr, l_kp_wr, l_kt_wr, ne1, ne2, ne3, ne4, ne5, ne6, l_ka_V4, l_kr_V4, l_ks_V4, l_kp_V4, l_kt_V4, l_ka_V4d, l_kr_V4d, l_ks_V4d, l_kp_V4d, l_kt_V4d, l_ka_W5, l_kr_W5, l_ks_W5, l_kp_W5, l_kt_W5, l_ka_V5, l_kr_V5, l_ks_V5, l_kp_V5, l_kt_V5, l_ka_W6, l_kr_W6, l_ks_W6, l_kp_W6, l_kt_W6, l_ka_V6, l_kr_V6, l_ks_V6, l_kp_V6, l_kt_V6, l_ka_W7, l_kr_W7, l_ks_W7, l_kp_W7, l_kt_W7, l_ka_V7, l_kr_V7, l_ks_V7, l_kp_V7, l_kt_V7, l_ka_W8, l_kr_W8, l_ks_W8, l_kp_W8, l_kt_W8, l_ka_V8, l_kr_V8, l_ks_V8, l_kp_V8, l_kt_V8, l_ka_V8d, l_kr_V8d, l_ks_V8d, l_kp_V8d, l_kt_V8d, l_ka_W9, l_kr_W9, l_ks_W9, l_kp_W9, l_kt_W9] at n_kt
    have n_F : Fr ((twoX W2.heap.size (W2.heap.size + 1))) O1 O6 wr V9 := nF hV_V9
    have n_A : AP V9 (.pointer q) r3.2.2 O6 := nA hV_V9
    have z_V9 := Nat.le_of_eq (congrArg (fun v : World => v.heap.size) hV_V9).symm
    try simp only [SZ] at z_V9
    clear ka c_ka f_ka
    clear kr c_kr f_kr
    clear ks c_ks f_ks
    clear kp c_kp f_kp
    clear kt c_kt f_kt
    clear hV_V9
    clear hA
    have hA := n_A
    clear n_A
    clear hF
    have hF := n_F
    clear n_F
    have ka := n_ka; clear n_ka
    have c_ka := cells_of ka
    have f_ka := free_of ka
    have l_ka_V9 := lt_of ka
    have kr := n_kr; clear n_kr
    have c_kr := cells_of kr
    have f_kr := free_of kr
    have l_kr_V9 := lt_of kr
    have ks := n_ks; clear n_ks
    have c_ks := cells_of ks
    have f_ks := free_of ks
    have l_ks_V9 := lt_of ks
    have kp := n_kp; clear n_kp
    have c_kp := cells_of kp
    have f_kp := free_of kp
    have l_kp_V9 := lt_of kp
    have kt := n_kt; clear n_kt
    have c_kt := cells_of kt
    have f_kt := free_of kt
    have l_kt_V9 := lt_of kt
    refine (next_t (W2.heap.size + 1) w.heap.size t2.2.1 st.p.spots r3 t3 Ht3.out _ hA kt ka o_kt o_ka ne6).mono ?_
    rintro e_W10 W10 ⟨rfl, O7, hT_W10, hf_W10⟩
    have q_ka := hf_W10.keep ka o_ka (by unfold oneX; omega)
    have q_kr := hf_W10.keep kr o_kr (by unfold oneX; omega)
    have q_ks := hf_W10.keep ks o_ks (by unfold oneX; omega)
    have q_kp := hf_W10.keep kp o_kp (by unfold oneX; omega)
    replace o_ka := hf_W10.not_own (lt_of ka) o_ka
    clear ka; have ka := q_ka; clear q_ka
    have c_ka := cells_of ka
    have f_ka := free_of ka
    have l_ka_W10 := lt_of ka
    replace o_kr := hf_W10.not_own (lt_of kr) o_kr
    clear kr; have kr := q_kr; clear q_kr
    have c_kr := cells_of kr
    have f_kr := free_of kr
    have l_kr_W10 := lt_of kr
    replace o_ks := hf_W10.not_own (lt_of ks) o_ks
    clear ks; have ks := q_ks; clear q_ks
    have c_ks := cells_of ks
    have f_ks := free_of ks
    have l_ks_W10 := lt_of ks
    replace o_kp := hf_W10.not_own (lt_of kp) o_kp
    clear kp; have kp := q_kp; clear q_kp
    have c_kp := cells_of kp
    have f_kp := free_of kp
    have l_kp_W10 := lt_of kp
    clear kt c_kt f_kt o_kt; have kt := hT_W10.blk; have o_kt := hT_W10.no
    have c_kt := cells_of kt
    have f_kt := free_of kt
    have l_kt_W10 := lt_of kt
    replace hF := hF.trans (hf_W10.mono (fun x h => Or.inr h))
    have z_W10 := hf_W10.size
    clear hA hf_W10; have hA := hT_W10.hA; clear hT_W10
    go_wp2_with fail
    refine calls_gen fun V10 hV_V10 => ?_
    have n_ka := congrArg (fun v : World => v.heap[w.heap.size]?) hV_V10
    simp (maxDischargeDepth := 9) only [BK, not_false_eq_true, reduceCtorEq, ka, kr, ks, kp, kt, l_ka_wr, l_kr_wr, l_ks_wr, l_kp_wr, l_kt_wr, ne1, ne2, ne3, ne4, ne5, ne6, l_ka_V4, l_kr_V4, l_ks_V4, l_kp_V4, l_kt_V4, l_ka_V4d, l_kr_V4d, l_ks_V4d, l_kp_V4d, l_kt_V4d, l_ka_W5, l_kr_W5, l_ks_W5, l_kp_W5, l_kt_W5, l_ka_V5, l_kr_V5, l_ks_V5, l_kp_V5, l_kt_V5, l_ka_W6, l_kr_W6, l_ks_W6, l_kp_W6, l_kt_W6, l_ka_V6, l_kr_V6, l_ks_V6, l_kp_V6, l_kt_V6, l_ka_W7, l_kr_W7, l_ks_W7, l_kp_W7, l_kt_W7, l_ka_V7, l_kr_V7, l_ks_V7, l_kp_V7, l_kt_V7, l_ka_W8, l_kr_W8, l_ks_W8, l_kp_W8, l_kt_W8, l_ka_V8, l_kr_V8, l_ks_V8, l_kp_V8, l_kt_V8, l_ka_V8d, l_kr_V8d, l_ks_V8d, l_kp_V8d, l_kt_V8d, l_ka_W9, l_kr_W9, l_ks_W9, l_kp_W9, l_kt_W9, l_ka_V9, l_kr_V9, l_ks_V9, l_kp_V9, l_kt_V9, l_ka_W10, l_kr_W10, l_ks_W10, l_kp_W10, l_kt_W10] at n_ka
    have n_kr := congrArg (fun v : World => v.heap[g1]?) hV_V10
    simp (maxDischargeDepth := 9) only [BK, not_false_eq_true, reduceCtorEq, ka, kr, ks, kp, kt, l_ka_wr, l_kr_wr, l_ks_wr, l_kp_wr, l_kt_wr, ne1, ne2, ne3, ne4, ne5, ne6, l_ka_V4, l_kr_V4, l_ks_V4, l_kp_V4, l_kt_V4, l_ka_V4d, l_kr_V4d, l_ks_V4d, l_kp_V4d, l_kt_V4d, l_ka_W5, l_kr_W5, l_ks_W5, l_kp_W5, l_kt_W5, l_ka_V5, l_kr_V5, l_ks_V5, l_kp_V5, l_kt_V5, l_ka_W6, l_kr_W6, l_ks_W6, l_kp_W6, l_kt_W6, l_ka_V6, l_kr_V6, l_ks_V6, l_kp_V6, l_kt_V6, l_ka_W7, l_kr_W7, l_ks_W7, l_kp_W7, l_kt_W7, l_ka_V7, l_kr_V7, l_ks_V7, l_kp_V7, l_kt_V7, l_ka_W8, l_kr_W8, l_ks_W8, l_kp_W8, l_kt_W8, l_ka_V8, l_kr_V8, l_ks_V8, l_kp_V8, l_kt_V8, l_ka_V8d, l_kr_V8d, l_ks_V8d, l_kp_V8d, l_kt_V8d, l_ka_W9, l_kr_W9, l_ks_W9, l_kp_W9, l_kt_W9, l_ka_V9, l_kr_V9, l_ks_V9, l_kp_V9, l_kt_V9, l_ka_W10, l_kr_W10, l_ks_W10, l_kp_W10, l_kt_W10] at n_kr
    have n_ks := congrArg (fun v : World => v.heap[g2]?) hV_V10
    simp (maxDischargeDepth := 9) only [BK, not_false_eq_true, reduceCtorEq, ka, kr, ks, kp, kt, l_ka_wr, l_kr_wr, l_ks_wr, l_kp_wr, l_kt_wr, ne1, ne2, ne3, ne4, ne5, ne6, l_ka_V4, l_kr_V4, l_ks_V4, l_kp_V4, l_kt_V4, l_ka_V4d, l_kr_V4d, l_ks_V4d, l_kp_V4d, l_kt_V4d, l_ka_W5, l_kr_W5, l_ks_W5, l_kp_W5, l_kt_W5, l_ka_V5, l_kr_V5, l_ks_V5, l_kp_V5, l_kt_V5, l_ka_W6, l_kr_W6, l_ks_W6, l_kp_W6, l_kt_W6, l_ka_V6, l_kr_V6, l_ks_V6, l_kp_V6, l_kt_V6, l_ka_W7, l_kr_W7, l_ks_W7, l_kp_W7, l_kt_W7, l_ka_V7, l_kr_V7, l_ks_V7, l_kp_V7, l_kt_V7, l_ka_W8, l_kr_W8, l_ks_W8, l_kp_W8, l_kt_W8, l_ka_V8, l_kr_V8, l_ks_V8, l_kp_V8, l_kt_V8, l_ka_V8d, l_kr_V8d, l_ks_V8d, l_kp_V8d, l_kt_V8d, l_ka_W9, l_kr_W9, l_ks_W9, l_kp_W9, l_kt_W9, l_ka_V9, l_kr_V9, l_ks_V9, l_kp_V9, l_kt_V9, l_ka_W10, l_kr_W10, l_ks_W10, l_kp_W10, l_kt_W10] at n_ks
    have n_kp := congrArg (fun v : World => v.heap[W2.heap.size]?) hV_V10
    simp (maxDischargeDepth := 9) only [BK, not_false_eq_true, reduceCtorEq, ka, kr, ks, kp, kt, l_ka_wr, l_kr_wr, l_ks_wr, l_kp_wr, l_kt_wr, ne1, ne2, ne3, ne4, ne5, ne6, l_ka_V4, l_kr_V4, l_ks_V4, l_kp_V4, l_kt_V4, l_ka_V4d, l_kr_V4d, l_ks_V4d, l_kp_V4d, l_kt_V4d, l_ka_W5, l_kr_W5, l_ks_W5, l_kp_W5, l_kt_W5, l_ka_V5, l_kr_V5, l_ks_V5, l_kp_V5, l_kt_V5, l_ka_W6, l_kr_W6, l_ks_W6, l_kp_W6, l_kt_W6, l_ka_V6, l_kr_V6, l_ks_V6, l_kp_V6, l_kt_V6, l_ka_W7, l_kr_W7, l_ks_W7, l_kp_W7, l_kt_W7, l_ka_V7, l_kr_V7, l_ks_V7, l_kp_V7, l_kt_V7, l_ka_W8, l_kr_W8, l_ks_W8, l_kp_W8, l_kt_W8, l_ka_V8, l_kr_V8, l_ks_V8, l_kp_V8, l_kt_V8, l_ka_V8d, l_kr_V8d, l_ks_V8d, l_kp_V8d, l_kt_V8d, l_ka_W9, l_kr_W9, l_ks_W9, l_kp_W9, l_kt_W9, l_ka_V9, l_kr_V9, l_ks_V9, l_kp_V9, l_kt_V9, l_ka_W10, l_kr_W10, l_ks_W10, l_kp_W10, l_kt_W10] at n_kp
    have n_kt := congrArg (fun v : World => v.heap[W2.heap.size + 1]?) hV_V10
    simp (maxDischargeDepth := 9) only [BK, not_false_eq_true, reduceCtorEq, ka, kr, ks, kp, kt, l_ka_wr, l_kr_wr, l_ks_wr, l_kp_wr, l_kt_wr, ne1, ne2, ne3, ne4, ne5, ne6, l_ka_V4, l_kr_V4, l_ks_V4, l_kp_V4, l_kt_V4, l_ka_V4d, l_kr_V4d, l_ks_V4d, l_kp_V4d, l_kt_V4d, l_ka_W5, l_kr_W5, l_ks_W5, l_kp_W5, l_kt_W5, l_ka_V5, l_kr_V5, l_ks_V5, l_kp_V5, l_kt_V5, l_ka_W6, l_kr_W6, l_ks_W6, l_kp_W6, l_kt_W6, l_ka_V6, l_kr_V6, l_ks_V6, l_kp_V6, l_kt_V6, l_ka_W7, l_kr_W7, l_ks_W7, l_kp_W7, l_kt_W7, l_ka_V7, l_kr_V7, l_ks_V7, l_kp_V7, l_kt_V7, l_ka_W8, l_kr_W8, l_ks_W8, l_kp_W8, l_kt_W8, l_ka_V8, l_kr_V8, l_ks_V8, l_kp_V8, l_kt_V8, l_ka_V8d, l_kr_V8d, l_ks_V8d, l_kp_V8d, l_kt_V8d, l_ka_W9, l_kr_W9, l_ks_W9, l_kp_W9, l_kt_W9, l_ka_V9, l_kr_V9, l_ks_V9, l_kp_V9, l_kt_V9, l_ka_W10, l_kr_W10, l_ks_W10, l_kp_W10, l_kt_W10] at n_kt
    have n_F : Fr ((twoX W2.heap.size (W2.heap.size + 1))) O1 O7 wr V10 := nF hV_V10
    have n_A : AP V10 (.pointer q) ((⟨t3.2.2, 0⟩ : Tb)).s O7 := nA hV_V10
    have z_V10 := Nat.le_of_eq (congrArg (fun v : World => v.heap.size) hV_V10).symm
    try simp only [SZ] at z_V10
    clear ka c_ka f_ka
    clear kr c_kr f_kr
    clear ks c_ks f_ks
    clear kp c_kp f_kp
    clear kt c_kt f_kt
    clear hV_V10
    clear hA
    have hA := n_A
    clear n_A
    clear hF
    have hF := n_F
    clear n_F
    have ka := n_ka; clear n_ka
    have c_ka := cells_of ka
    have f_ka := free_of ka
    have l_ka_V10 := lt_of ka
    have kr := n_kr; clear n_kr
    have c_kr := cells_of kr
    have f_kr := free_of kr
    have l_kr_V10 := lt_of kr
    have ks := n_ks; clear n_ks
    have c_ks := cells_of ks
    have f_ks := free_of ks
    have l_ks_V10 := lt_of ks
    have kp := n_kp; clear n_kp
    have c_kp := cells_of kp
    have f_kp := free_of kp
    have l_kp_V10 := lt_of kp
    have kt := n_kt; clear n_kt
    have c_kt := cells_of kt
    have f_kt := free_of kt
    have l_kt_V10 := lt_of kt
    refine (work_calls (s := t3.2.2) 1073741824 u Hu.out _ hA).mono ?_
    rintro e_W11 W11 ⟨rfl, O8, hA_W11, hf_W11⟩
    have q_ka := hf_W11.keep ka o_ka (fun h => h)
    have q_kr := hf_W11.keep kr o_kr (fun h => h)
    have q_ks := hf_W11.keep ks o_ks (fun h => h)
    have q_kp := hf_W11.keep kp o_kp (fun h => h)
    have q_kt := hf_W11.keep kt o_kt (fun h => h)
    replace o_ka := hf_W11.not_own (lt_of ka) o_ka
    clear ka; have ka := q_ka; clear q_ka
    have c_ka := cells_of ka
    have f_ka := free_of ka
    have l_ka_W11 := lt_of ka
    replace o_kr := hf_W11.not_own (lt_of kr) o_kr
    clear kr; have kr := q_kr; clear q_kr
    have c_kr := cells_of kr
    have f_kr := free_of kr
    have l_kr_W11 := lt_of kr
    replace o_ks := hf_W11.not_own (lt_of ks) o_ks
    clear ks; have ks := q_ks; clear q_ks
    have c_ks := cells_of ks
    have f_ks := free_of ks
    have l_ks_W11 := lt_of ks
    replace o_kp := hf_W11.not_own (lt_of kp) o_kp
    clear kp; have kp := q_kp; clear q_kp
    have c_kp := cells_of kp
    have f_kp := free_of kp
    have l_kp_W11 := lt_of kp
    replace o_kt := hf_W11.not_own (lt_of kt) o_kt
    clear kt; have kt := q_kt; clear q_kt
    have c_kt := cells_of kt
    have f_kt := free_of kt
    have l_kt_W11 := lt_of kt
    replace hF := hF.trans hf_W11.widen
    have z_W11 := hf_W11.size
    clear hA hf_W11; have hA := hA_W11; clear hA_W11
    obtain rfl := Hst.out
    have HF2 := Lib.hid (HF.out.trans_own hF hY)
    have hdoc2 := Lib.hid (hdoc.out.fr hF oD hX)
    have oD2 := hF.not_own (by have := HF.out.size; omega) oD
    have HA2 := Lib.hid hA
    clear hF hdoc oD hA
    go_wp2_with fail
    go_roundg k
    case measure => omega
    case rel => exact ⟨i + 1, _, O8, rfl, by first | rfl | (rw [E3.out]; rfl), by omega, HA2.out, HF2, kp, kt, ka, kr, ks, o_kp, o_kt, o_ka, o_kr, o_ks, oD2, hdoc2, Lib.hid (by exact Hb2.out)⟩
   ·
    have m1 : ((r.2 : Int) % rate == 0) = false := by rw [beq_eq_false_iff_ne]; exact hm
    have hst := Hst2.out
    rw [if_neg hm] at hst
    obtain ⟨u, hu, hst⟩ := Option.map_eq_some_iff.1 hst
    have Hu := Lib.hid hu; have Hst := Lib.hid hst; have Hm := Lib.hid hm
    have Hr2' : Hid (bInsert t1.2.2 st.p.marks (i : Int) ((r.2 : Int) % rate == 0) = some r2) := Lib.hid Hr2.out
    rw [m1] at Hr2' ⊢
    clear hst hu hm
    refine (bInsert_calls (s := t1.2.2) _ _ _ r2 Hr2'.out _ hA).mono ?_
    rintro e_W7 W7 ⟨rfl, O4, hA_W7, hf_W7⟩
    have q_ka := hf_W7.keep ka o_ka (fun h => h)
    have q_kr := hf_W7.keep kr o_kr (fun h => h)
    have q_ks := hf_W7.keep ks o_ks (fun h => h)
    have q_kp := hf_W7.keep kp o_kp (fun h => h)
    have q_kt := hf_W7.keep kt o_kt (fun h => h)
    replace o_ka := hf_W7.not_own (lt_of ka) o_ka
    clear ka; have ka := q_ka; clear q_ka
    have c_ka := cells_of ka
    have f_ka := free_of ka
    have l_ka_W7 := lt_of ka
    replace o_kr := hf_W7.not_own (lt_of kr) o_kr
    clear kr; have kr := q_kr; clear q_kr
    have c_kr := cells_of kr
    have f_kr := free_of kr
    have l_kr_W7 := lt_of kr
    replace o_ks := hf_W7.not_own (lt_of ks) o_ks
    clear ks; have ks := q_ks; clear q_ks
    have c_ks := cells_of ks
    have f_ks := free_of ks
    have l_ks_W7 := lt_of ks
    replace o_kp := hf_W7.not_own (lt_of kp) o_kp
    clear kp; have kp := q_kp; clear q_kp
    have c_kp := cells_of kp
    have f_kp := free_of kp
    have l_kp_W7 := lt_of kp
    replace o_kt := hf_W7.not_own (lt_of kt) o_kt
    clear kt; have kt := q_kt; clear q_kt
    have c_kt := cells_of kt
    have f_kt := free_of kt
    have l_kt_W7 := lt_of kt
    replace hF := hF.trans hf_W7.widen
    have z_W7 := hf_W7.size
    clear hA hf_W7; have hA := hA_W7; clear hA_W7
    go_wp2_with fail
    refine calls_gen fun V7 hV_V7 => ?_
    have n_ka := congrArg (fun v : World => v.heap[w.heap.size]?) hV_V7
    simp (maxDischargeDepth := 9) only [BK, not_false_eq_true, reduceCtorEq, ka, kr, ks, kp, kt, l_ka_wr, l_kr_wr, l_ks_wr, l_kp_wr, l_kt_wr, ne1, ne2, ne3, ne4, ne5, ne6, l_ka_V4, l_kr_V4, l_ks_V4, l_kp_V4, l_kt_V4, l_ka_V4d, l_kr_V4d, l_ks_V4d, l_kp_V4d, l_kt_V4d, l_ka_W5, l_kr_W5, l_ks_W5, l_kp_W5, l_kt_W5, l_ka_V5, l_kr_V5, l_ks_V5, l_kp_V5, l_kt_V5, l_ka_W6, l_kr_W6, l_ks_W6, l_kp_W6, l_kt_W6, l_ka_V6, l_kr_V6, l_ks_V6, l_kp_V6, l_kt_V6, l_ka_W7, l_kr_W7, l_ks_W7, l_kp_W7, l_kt_W7] at n_ka
    have n_kr := congrArg (fun v : World => v.heap[g1]?) hV_V7
    simp (maxDischargeDepth := 9) only [BK, not_false_eq_true, reduceCtorEq, ka, kr, ks, kp, kt, l_ka_wr, l_kr_wr, l_ks_wr, l_kp_wr, l_kt_wr, ne1, ne2, ne3, ne4, ne5, ne6, l_ka_V4, l_kr_V4, l_ks_V4, l_kp_V4, l_kt_V4, l_ka_V4d, l_kr_V4d, l_ks_V4d, l_kp_V4d, l_kt_V4d, l_ka_W5, l_kr_W5, l_ks_W5, l_kp_W5, l_kt_W5, l_ka_V5, l_kr_V5, l_ks_V5, l_kp_V5, l_kt_V5, l_ka_W6, l_kr_W6, l_ks_W6, l_kp_W6, l_kt_W6, l_ka_V6, l_kr_V6, l_ks_V6, l_kp_V6, l_kt_V6, l_ka_W7, l_kr_W7, l_ks_W7, l_kp_W7, l_kt_W7] at n_kr
    have n_ks := congrArg (fun v : World => v.heap[g2]?) hV_V7
    simp (maxDischargeDepth := 9) only [BK, not_false_eq_true, reduceCtorEq, ka, kr, ks, kp, kt, l_ka_wr, l_kr_wr, l_ks_wr, l_kp_wr, l_kt_wr, ne1, ne2, ne3, ne4, ne5, ne6, l_ka_V4, l_kr_V4, l_ks_V4, l_kp_V4, l_kt_V4, l_ka_V4d, l_kr_V4d, l_ks_V4d, l_kp_V4d, l_kt_V4d, l_ka_W5, l_kr_W5, l_ks_W5, l_kp_W5, l_kt_W5, l_ka_V5, l_kr_V5, l_ks_V5, l_kp_V5, l_kt_V5, l_ka_W6, l_kr_W6, l_ks_W6, l_kp_W6, l_kt_W6, l_ka_V6, l_kr_V6, l_ks_V6, l_kp_V6, l_kt_V6, l_ka_W7, l_kr_W7, l_ks_W7, l_kp_W7, l_kt_W7] at n_ks
    have n_kp := congrArg (fun v : World => v.heap[W2.heap.size]?) hV_V7
    simp (maxDischargeDepth := 9) only [BK, not_false_eq_true, reduceCtorEq, ka, kr, ks, kp, kt, l_ka_wr, l_kr_wr, l_ks_wr, l_kp_wr, l_kt_wr, ne1, ne2, ne3, ne4, ne5, ne6, l_ka_V4, l_kr_V4, l_ks_V4, l_kp_V4, l_kt_V4, l_ka_V4d, l_kr_V4d, l_ks_V4d, l_kp_V4d, l_kt_V4d, l_ka_W5, l_kr_W5, l_ks_W5, l_kp_W5, l_kt_W5, l_ka_V5, l_kr_V5, l_ks_V5, l_kp_V5, l_kt_V5, l_ka_W6, l_kr_W6, l_ks_W6, l_kp_W6, l_kt_W6, l_ka_V6, l_kr_V6, l_ks_V6, l_kp_V6, l_kt_V6, l_ka_W7, l_kr_W7, l_ks_W7, l_kp_W7, l_kt_W7] at n_kp
    have n_kt := congrArg (fun v : World => v.heap[W2.heap.size + 1]?) hV_V7
    simp (maxDischargeDepth := 9) only [BK, not_false_eq_true, reduceCtorEq, ka, kr, ks, kp, kt, l_ka_wr, l_kr_wr, l_ks_wr, l_kp_wr, l_kt_wr, ne1, ne2, ne3, ne4, ne5, ne6, l_ka_V4, l_kr_V4, l_ks_V4, l_kp_V4, l_kt_V4, l_ka_V4d, l_kr_V4d, l_ks_V4d, l_kp_V4d, l_kt_V4d, l_ka_W5, l_kr_W5, l_ks_W5, l_kp_W5, l_kt_W5, l_ka_V5, l_kr_V5, l_ks_V5, l_kp_V5, l_kt_V5, l_ka_W6, l_kr_W6, l_ks_W6, l_kp_W6, l_kt_W6, l_ka_V6, l_kr_V6, l_ks_V6, l_kp_V6, l_kt_V6, l_ka_W7, l_kr_W7, l_ks_W7, l_kp_W7, l_kt_W7] at n_kt
    have n_F : Fr ((twoX W2.heap.size (W2.heap.size + 1))) O1 O4 wr V7 := nF hV_V7
    have n_A : AP V7 (.pointer q) r2.2.2 O4 := nA hV_V7
    have z_V7 := Nat.le_of_eq (congrArg (fun v : World => v.heap.size) hV_V7).symm
    try simp only [SZ] at z_V7
    clear ka c_ka f_ka
    clear kr c_kr f_kr
    clear ks c_ks f_ks
    clear kp c_kp f_kp
    clear kt c_kt f_kt
    clear hV_V7
    clear hA
    have hA := n_A
    clear n_A
    clear hF
    have hF := n_F
    clear n_F
    have ka := n_ka; clear n_ka
    have c_ka := cells_of ka
    have f_ka := free_of ka
    have l_ka_V7 := lt_of ka
    have kr := n_kr; clear n_kr
    have c_kr := cells_of kr
    have f_kr := free_of kr
    have l_kr_V7 := lt_of kr
    have ks := n_ks; clear n_ks
    have c_ks := cells_of ks
    have f_ks := free_of ks
    have l_ks_V7 := lt_of ks
    have kp := n_kp; clear n_kp
    have c_kp := cells_of kp
    have f_kp := free_of kp
    have l_kp_V7 := lt_of kp
    have kt := n_kt; clear n_kt
    have c_kt := cells_of kt
    have f_kt := free_of kt
    have l_kt_V7 := lt_of kt
    refine (next_t (W2.heap.size + 1) w.heap.size t1.2.1 st.p.marks r2 t2 Ht2.out _ hA kt ka o_kt o_ka ne6).mono ?_
    rintro e_W8 W8 ⟨rfl, O5, hT_W8, hf_W8⟩
    have q_ka := hf_W8.keep ka o_ka (by unfold oneX; omega)
    have q_kr := hf_W8.keep kr o_kr (by unfold oneX; omega)
    have q_ks := hf_W8.keep ks o_ks (by unfold oneX; omega)
    have q_kp := hf_W8.keep kp o_kp (by unfold oneX; omega)
    replace o_ka := hf_W8.not_own (lt_of ka) o_ka
    clear ka; have ka := q_ka; clear q_ka
    have c_ka := cells_of ka
    have f_ka := free_of ka
    have l_ka_W8 := lt_of ka
    replace o_kr := hf_W8.not_own (lt_of kr) o_kr
    clear kr; have kr := q_kr; clear q_kr
    have c_kr := cells_of kr
    have f_kr := free_of kr
    have l_kr_W8 := lt_of kr
    replace o_ks := hf_W8.not_own (lt_of ks) o_ks
    clear ks; have ks := q_ks; clear q_ks
    have c_ks := cells_of ks
    have f_ks := free_of ks
    have l_ks_W8 := lt_of ks
    replace o_kp := hf_W8.not_own (lt_of kp) o_kp
    clear kp; have kp := q_kp; clear q_kp
    have c_kp := cells_of kp
    have f_kp := free_of kp
    have l_kp_W8 := lt_of kp
    clear kt c_kt f_kt o_kt; have kt := hT_W8.blk; have o_kt := hT_W8.no
    have c_kt := cells_of kt
    have f_kt := free_of kt
    have l_kt_W8 := lt_of kt
    replace hF := hF.trans (hf_W8.mono (fun x h => Or.inr h))
    have z_W8 := hf_W8.size
    clear hA hf_W8; have hA := hT_W8.hA; clear hT_W8
    go_wp2_with fail
    refine calls_gen fun V8 hV_V8 => ?_
    have n_ka := congrArg (fun v : World => v.heap[w.heap.size]?) hV_V8
    simp (maxDischargeDepth := 9) only [BK, not_false_eq_true, reduceCtorEq, ka, kr, ks, kp, kt, l_ka_wr, l_kr_wr, l_ks_wr, l_kp_wr, l_kt_wr, ne1, ne2, ne3, ne4, ne5, ne6, l_ka_V4, l_kr_V4, l_ks_V4, l_kp_V4, l_kt_V4, l_ka_V4d, l_kr_V4d, l_ks_V4d, l_kp_V4d, l_kt_V4d, l_ka_W5, l_kr_W5, l_ks_W5, l_kp_W5, l_kt_W5, l_ka_V5, l_kr_V5, l_ks_V5, l_kp_V5, l_kt_V5, l_ka_W6, l_kr_W6, l_ks_W6, l_kp_W6, l_kt_W6, l_ka_V6, l_kr_V6, l_ks_V6, l_kp_V6, l_kt_V6, l_ka_W7, l_kr_W7, l_ks_W7, l_kp_W7, l_kt_W7, l_ka_V7, l_kr_V7, l_ks_V7, l_kp_V7, l_kt_V7, l_ka_W8, l_kr_W8, l_ks_W8, l_kp_W8, l_kt_W8] at n_ka
    have n_kr := congrArg (fun v : World => v.heap[g1]?) hV_V8
    simp (maxDischargeDepth := 9) only [BK, not_false_eq_true, reduceCtorEq, ka, kr, ks, kp, kt, l_ka_wr, l_kr_wr, l_ks_wr, l_kp_wr, l_kt_wr, ne1, ne2, ne3, ne4, ne5, ne6, l_ka_V4, l_kr_V4, l_ks_V4, l_kp_V4, l_kt_V4, l_ka_V4d, l_kr_V4d, l_ks_V4d, l_kp_V4d, l_kt_V4d, l_ka_W5, l_kr_W5, l_ks_W5, l_kp_W5, l_kt_W5, l_ka_V5, l_kr_V5, l_ks_V5, l_kp_V5, l_kt_V5, l_ka_W6, l_kr_W6, l_ks_W6, l_kp_W6, l_kt_W6, l_ka_V6, l_kr_V6, l_ks_V6, l_kp_V6, l_kt_V6, l_ka_W7, l_kr_W7, l_ks_W7, l_kp_W7, l_kt_W7, l_ka_V7, l_kr_V7, l_ks_V7, l_kp_V7, l_kt_V7, l_ka_W8, l_kr_W8, l_ks_W8, l_kp_W8, l_kt_W8] at n_kr
    have n_ks := congrArg (fun v : World => v.heap[g2]?) hV_V8
    simp (maxDischargeDepth := 9) only [BK, not_false_eq_true, reduceCtorEq, ka, kr, ks, kp, kt, l_ka_wr, l_kr_wr, l_ks_wr, l_kp_wr, l_kt_wr, ne1, ne2, ne3, ne4, ne5, ne6, l_ka_V4, l_kr_V4, l_ks_V4, l_kp_V4, l_kt_V4, l_ka_V4d, l_kr_V4d, l_ks_V4d, l_kp_V4d, l_kt_V4d, l_ka_W5, l_kr_W5, l_ks_W5, l_kp_W5, l_kt_W5, l_ka_V5, l_kr_V5, l_ks_V5, l_kp_V5, l_kt_V5, l_ka_W6, l_kr_W6, l_ks_W6, l_kp_W6, l_kt_W6, l_ka_V6, l_kr_V6, l_ks_V6, l_kp_V6, l_kt_V6, l_ka_W7, l_kr_W7, l_ks_W7, l_kp_W7, l_kt_W7, l_ka_V7, l_kr_V7, l_ks_V7, l_kp_V7, l_kt_V7, l_ka_W8, l_kr_W8, l_ks_W8, l_kp_W8, l_kt_W8] at n_ks
    have n_kp := congrArg (fun v : World => v.heap[W2.heap.size]?) hV_V8
    simp (maxDischargeDepth := 9) only [BK, not_false_eq_true, reduceCtorEq, ka, kr, ks, kp, kt, l_ka_wr, l_kr_wr, l_ks_wr, l_kp_wr, l_kt_wr, ne1, ne2, ne3, ne4, ne5, ne6, l_ka_V4, l_kr_V4, l_ks_V4, l_kp_V4, l_kt_V4, l_ka_V4d, l_kr_V4d, l_ks_V4d, l_kp_V4d, l_kt_V4d, l_ka_W5, l_kr_W5, l_ks_W5, l_kp_W5, l_kt_W5, l_ka_V5, l_kr_V5, l_ks_V5, l_kp_V5, l_kt_V5, l_ka_W6, l_kr_W6, l_ks_W6, l_kp_W6, l_kt_W6, l_ka_V6, l_kr_V6, l_ks_V6, l_kp_V6, l_kt_V6, l_ka_W7, l_kr_W7, l_ks_W7, l_kp_W7, l_kt_W7, l_ka_V7, l_kr_V7, l_ks_V7, l_kp_V7, l_kt_V7, l_ka_W8, l_kr_W8, l_ks_W8, l_kp_W8, l_kt_W8] at n_kp
    have n_kt := congrArg (fun v : World => v.heap[W2.heap.size + 1]?) hV_V8
    simp (maxDischargeDepth := 9) only [BK, not_false_eq_true, reduceCtorEq, ka, kr, ks, kp, kt, l_ka_wr, l_kr_wr, l_ks_wr, l_kp_wr, l_kt_wr, ne1, ne2, ne3, ne4, ne5, ne6, l_ka_V4, l_kr_V4, l_ks_V4, l_kp_V4, l_kt_V4, l_ka_V4d, l_kr_V4d, l_ks_V4d, l_kp_V4d, l_kt_V4d, l_ka_W5, l_kr_W5, l_ks_W5, l_kp_W5, l_kt_W5, l_ka_V5, l_kr_V5, l_ks_V5, l_kp_V5, l_kt_V5, l_ka_W6, l_kr_W6, l_ks_W6, l_kp_W6, l_kt_W6, l_ka_V6, l_kr_V6, l_ks_V6, l_kp_V6, l_kt_V6, l_ka_W7, l_kr_W7, l_ks_W7, l_kp_W7, l_kt_W7, l_ka_V7, l_kr_V7, l_ks_V7, l_kp_V7, l_kt_V7, l_ka_W8, l_kr_W8, l_ks_W8, l_kp_W8, l_kt_W8] at n_kt
    have n_F : Fr ((twoX W2.heap.size (W2.heap.size + 1))) O1 O5 wr V8 := nF hV_V8
    have n_A : AP V8 (.pointer q) ((⟨t2.2.2, 0⟩ : Tb)).s O5 := nA hV_V8
    have z_V8 := Nat.le_of_eq (congrArg (fun v : World => v.heap.size) hV_V8).symm
    try simp only [SZ] at z_V8
    clear ka c_ka f_ka
    clear kr c_kr f_kr
    clear ks c_ks f_ks
    clear kp c_kp f_kp
    clear kt c_kt f_kt
    clear hV_V8
    clear hA
    have hA := n_A
    clear n_A
    clear hF
    have hF := n_F
    clear n_F
    have ka := n_ka; clear n_ka
    have c_ka := cells_of ka
    have f_ka := free_of ka
    have l_ka_V8 := lt_of ka
    have kr := n_kr; clear n_kr
    have c_kr := cells_of kr
    have f_kr := free_of kr
    have l_kr_V8 := lt_of kr
    have ks := n_ks; clear n_ks
    have c_ks := cells_of ks
    have f_ks := free_of ks
    have l_ks_V8 := lt_of ks
    have kp := n_kp; clear n_kp
    have c_kp := cells_of kp
    have f_kp := free_of kp
    have l_kp_V8 := lt_of kp
    have kt := n_kt; clear n_kt
    have c_kt := cells_of kt
    have f_kt := free_of kt
    have l_kt_V8 := lt_of kt
    refine (work_calls (s := t2.2.2) 1073741824 u Hu.out _ hA).mono ?_
    rintro e_W11 W11 ⟨rfl, O8, hA_W11, hf_W11⟩
    have q_ka := hf_W11.keep ka o_ka (fun h => h)
    have q_kr := hf_W11.keep kr o_kr (fun h => h)
    have q_ks := hf_W11.keep ks o_ks (fun h => h)
    have q_kp := hf_W11.keep kp o_kp (fun h => h)
    have q_kt := hf_W11.keep kt o_kt (fun h => h)
    replace o_ka := hf_W11.not_own (lt_of ka) o_ka
    clear ka; have ka := q_ka; clear q_ka
    have c_ka := cells_of ka
    have f_ka := free_of ka
    have l_ka_W11 := lt_of ka
    replace o_kr := hf_W11.not_own (lt_of kr) o_kr
    clear kr; have kr := q_kr; clear q_kr
    have c_kr := cells_of kr
    have f_kr := free_of kr
    have l_kr_W11 := lt_of kr
    replace o_ks := hf_W11.not_own (lt_of ks) o_ks
    clear ks; have ks := q_ks; clear q_ks
    have c_ks := cells_of ks
    have f_ks := free_of ks
    have l_ks_W11 := lt_of ks
    replace o_kp := hf_W11.not_own (lt_of kp) o_kp
    clear kp; have kp := q_kp; clear q_kp
    have c_kp := cells_of kp
    have f_kp := free_of kp
    have l_kp_W11 := lt_of kp
    replace o_kt := hf_W11.not_own (lt_of kt) o_kt
    clear kt; have kt := q_kt; clear q_kt
    have c_kt := cells_of kt
    have f_kt := free_of kt
    have l_kt_W11 := lt_of kt
    replace hF := hF.trans hf_W11.widen
    have z_W11 := hf_W11.size
    clear hA hf_W11; have hA := hA_W11; clear hA_W11
    obtain rfl := Hst.out
    have HF2 := Lib.hid (HF.out.trans_own hF hY)
    have hdoc2 := Lib.hid (hdoc.out.fr hF oD hX)
    have oD2 := hF.not_own (by have := HF.out.size; omega) oD
    have HA2 := Lib.hid hA
    clear hF hdoc oD hA
    go_wp2_with fail
    go_roundg k
    case measure => omega
    case rel => exact ⟨i + 1, (⟨u.2, t2.2.1, ⟨t1.1, t2.1, st.p.spots, st.p.table⟩, st.n⟩ : Bst), O8, rfl, by first | rfl | (rw [E3.out]; rfl), by omega, HA2.out, HF2, kp, kt, ka, kr, ks, o_kp, o_kt, o_ka, o_kr, o_ks, oD2, hdoc2, Lib.hid (by exact Hb2.out)⟩
  ·
   obtain rfl : i = R.length := by omega
   have hb := Hb.out
   rw [List.drop_of_length_le (by omega)] at hb
   unfold bRows at hb
   obtain rfl := Option.some.inj hb
   have n1 : decide ((R.length : Int) < (R.length : Int)) = false := by simp
   clear hb Hb hlt hk
   go_wp2_with fail
   go_loopg [126] ds.length (fun k p1 wr => ∃ (i : Nat) (st : Bst) (O' : Nat → Prop), p1 = .int .i64 (i : Int) ∧ i + k = ds.length ∧ AP wr (.pointer q) st.s O' ∧ Hid (Fr noX O O' w wr)
    ∧ wr.heap[W2.heap.size]? = some (.cells #[.int .i64 st.p.wave, .int .i64 st.p.marks, .int .i64 st.p.spots, .int .i64 st.p.table] 46 (0, 0)) ∧ wr.heap[W2.heap.size + 1]? = some (.cells #[.bool st.ok] 4 (0, 0)) ∧ wr.heap[w.heap.size]? = some (.cells #[.pointer q] 25 (0, 0))
    ∧ ¬ O' (W2.heap.size) ∧ ¬ O' (W2.heap.size + 1) ∧ ¬ O' w.heap.size ∧ ¬ O' ad.block ∧ Hid (Rd2 wr (.slice (some ad) ds.length cap) ds) ∧ Hid (bTable ((docsM ds).drop i) st = some B2))
   case atStart => exact ⟨0, _, O1, rfl, by omega, hA, HF, kp, kt, ka, o_kp, o_kt, o_ka, oD, hdoc, H2⟩
   case round =>
    clear hA HF kp kt ka kr ks o_kp o_kt o_ka o_kr o_ks oD hdoc
    obtain ⟨i, st, O1, rfl, hk, hA, HF, kp, kt, ka, o_kp, o_kt, o_ka, oD, hdoc, Hb⟩ := hrel
    have hadlt : ad.block < w.heap.size := by
     obtain ⟨A, c, hv, hc⟩ := HD.out
     obtain ⟨rfl, -, rfl⟩ := Value.slice.inj hv
     obtain ⟨ad', ha, hlt, -⟩ := hc hlen
     obtain rfl := Option.some.inj ha
     exact hlt
    have hX : ¬ twoX W2.heap.size (W2.heap.size + 1) ad.block := by unfold twoX; omega
    by_cases hlt : i < ds.length
    ·
     obtain ⟨k, rfl⟩ : ∃ k, gk = k + 1 := ⟨gk - 1, by omega⟩
     obtain ⟨d, hd⟩ := at_some hlt
     have hx : (docsM ds)[i]? = some (d.1, (d.2.length : Int)) := by unfold docsM; rw [List.getElem?_map, hd]; rfl
     have hb := Hb.out
     rw [drop_at hx] at hb
     unfold bTable at hb
     obtain ⟨a, ha, hb⟩ := Option.bind_eq_some_iff.1 hb
     have hla : a.length ≤ 50000 := by
      by_cases h : a.length ≤ 50000
      ·
       exact h
      ·
       rw [if_neg h] at hb; cases hb
     rw [if_pos hla] at hb
     obtain ⟨r, hr, hb⟩ := Option.bind_eq_some_iff.1 hb
     obtain ⟨t, ht⟩ : ∃ t, nextA st.ok st.p.table r = t := ⟨_, rfl⟩
     rw [ht] at hb
     dsimp only at hr
     have Ha := Lib.hid ha; have Hr := Lib.hid hr; have Hb2 := Lib.hid hb; have Ht := Lib.hid ht
     have m1 : decide ((i : Int) < (ds.length : Int)) = true := by simpa using hlt
     have m2 : (i : Int) < (ds.length : Int) := by omega
     have E3 := Lib.hid (step_wrap i 500 (by omega) (by omega))
     obtain ⟨cd1, cd2⟩ : wr.cell? (ad.add (i * 2)) = some (.int .i64 d.1) ∧ wr.cell? ⟨(ad.add (i * 2)).block, (ad.add (i * 2)).off + 1, none⟩ = some (.string ⟨d.2.toArray⟩) := by
      obtain ⟨A, c, hv, hc⟩ := hdoc.out
      obtain ⟨rfl, -, rfl⟩ := Value.slice.inj hv
      obtain ⟨ad', ha, hlt, hc⟩ := hc hlen
      obtain rfl := Option.some.inj ha
      obtain ⟨-, q1, q2⟩ := hc i d hd
      exact ⟨q1, q2⟩
     clear hb ha hr ht hd hx hlt Hb
     have hF := Fr.refl ((twoX W2.heap.size (W2.heap.size + 1))) O1 wr
     have c_ka := cells_of ka
     have f_ka := free_of ka
     have l_ka_wr := lt_of ka
     have c_kp := cells_of kp
     have f_kp := free_of kp
     have l_kp_wr := lt_of kp
     have c_kt := cells_of kt
     have f_kt := free_of kt
     have l_kt_wr := lt_of kt
     go_wp2_with fail
     refine calls_gen fun V4 hV_V4 => ?_
     have n_ka := congrArg (fun v : World => v.heap[w.heap.size]?) hV_V4
     simp (maxDischargeDepth := 9) only [BK, not_false_eq_true, reduceCtorEq, ka, kp, kt, l_ka_wr, l_kp_wr, l_kt_wr, ne5, ne6] at n_ka
     have n_kp := congrArg (fun v : World => v.heap[W2.heap.size]?) hV_V4
     simp (maxDischargeDepth := 9) only [BK, not_false_eq_true, reduceCtorEq, ka, kp, kt, l_ka_wr, l_kp_wr, l_kt_wr, ne5, ne6] at n_kp
     have n_kt := congrArg (fun v : World => v.heap[W2.heap.size + 1]?) hV_V4
     simp (maxDischargeDepth := 9) only [BK, not_false_eq_true, reduceCtorEq, ka, kp, kt, l_ka_wr, l_kp_wr, l_kt_wr, ne5, ne6] at n_kt
     have n_F : Fr ((twoX W2.heap.size (W2.heap.size + 1))) O1 O1 wr V4 := nF hV_V4
     have n_A : AP V4 (.pointer q) st.s O1 := nA hV_V4
     have z_V4 := Nat.le_of_eq (congrArg (fun v : World => v.heap.size) hV_V4).symm
     try simp only [SZ] at z_V4
     clear ka c_ka f_ka
     clear kp c_kp f_kp
     clear kt c_kt f_kt
     clear hV_V4
     clear hA
     have hA := n_A
     clear n_A
     clear hF
     have hF := n_F
     clear n_F
     have ka := n_ka; clear n_ka
     have c_ka := cells_of ka
     have f_ka := free_of ka
     have l_ka_V4 := lt_of ka
     have kp := n_kp; clear n_kp
     have c_kp := cells_of kp
     have f_kp := free_of kp
     have l_kp_V4 := lt_of kp
     have kt := n_kt; clear n_kt
     have c_kt := cells_of kt
     have f_kt := free_of kt
     have l_kt_V4 := lt_of kt
     refine (tAdd_calls _ _ _ a Ha.out hla r Hr.out _ hA).mono ?_
     rintro e_W5 W5 ⟨rfl, O2, hA_W5, hf_W5⟩
     have q_ka := hf_W5.keep ka o_ka (fun h => h)
     have q_kp := hf_W5.keep kp o_kp (fun h => h)
     have q_kt := hf_W5.keep kt o_kt (fun h => h)
     replace o_ka := hf_W5.not_own (lt_of ka) o_ka
     clear ka; have ka := q_ka; clear q_ka
     have c_ka := cells_of ka
     have f_ka := free_of ka
     have l_ka_W5 := lt_of ka
     replace o_kp := hf_W5.not_own (lt_of kp) o_kp
     clear kp; have kp := q_kp; clear q_kp
     have c_kp := cells_of kp
     have f_kp := free_of kp
     have l_kp_W5 := lt_of kp
     replace o_kt := hf_W5.not_own (lt_of kt) o_kt
     clear kt; have kt := q_kt; clear q_kt
     have c_kt := cells_of kt
     have f_kt := free_of kt
     have l_kt_W5 := lt_of kt
     replace hF := hF.trans hf_W5.widen
     have z_W5 := hf_W5.size
     clear hA hf_W5; have hA := hA_W5; clear hA_W5
     go_wp2_with fail
     refine calls_gen fun V5 hV_V5 => ?_
     have n_ka := congrArg (fun v : World => v.heap[w.heap.size]?) hV_V5
     simp (maxDischargeDepth := 9) only [BK, not_false_eq_true, reduceCtorEq, ka, kp, kt, l_ka_wr, l_kp_wr, l_kt_wr, ne5, ne6, l_ka_V4, l_kp_V4, l_kt_V4, l_ka_W5, l_kp_W5, l_kt_W5] at n_ka
     have n_kp := congrArg (fun v : World => v.heap[W2.heap.size]?) hV_V5
     simp (maxDischargeDepth := 9) only [BK, not_false_eq_true, reduceCtorEq, ka, kp, kt, l_ka_wr, l_kp_wr, l_kt_wr, ne5, ne6, l_ka_V4, l_kp_V4, l_kt_V4, l_ka_W5, l_kp_W5, l_kt_W5] at n_kp
     have n_kt := congrArg (fun v : World => v.heap[W2.heap.size + 1]?) hV_V5
     simp (maxDischargeDepth := 9) only [BK, not_false_eq_true, reduceCtorEq, ka, kp, kt, l_ka_wr, l_kp_wr, l_kt_wr, ne5, ne6, l_ka_V4, l_kp_V4, l_kt_V4, l_ka_W5, l_kp_W5, l_kt_W5] at n_kt
     have n_F : Fr ((twoX W2.heap.size (W2.heap.size + 1))) O1 O2 wr V5 := nF hV_V5
     have n_A : AP V5 (.pointer q) r.2.2 O2 := nA hV_V5
     have z_V5 := Nat.le_of_eq (congrArg (fun v : World => v.heap.size) hV_V5).symm
     try simp only [SZ] at z_V5
     clear ka c_ka f_ka
     clear kp c_kp f_kp
     clear kt c_kt f_kt
     clear hV_V5
     clear hA
     have hA := n_A
     clear n_A
     clear hF
     have hF := n_F
     clear n_F
     have ka := n_ka; clear n_ka
     have c_ka := cells_of ka
     have f_ka := free_of ka
     have l_ka_V5 := lt_of ka
     have kp := n_kp; clear n_kp
     have c_kp := cells_of kp
     have f_kp := free_of kp
     have l_kp_V5 := lt_of kp
     have kt := n_kt; clear n_kt
     have c_kt := cells_of kt
     have f_kt := free_of kt
     have l_kt_V5 := lt_of kt
     refine (next_t (W2.heap.size + 1) w.heap.size st.ok st.p.table r t Ht.out _ hA kt ka o_kt o_ka ne6).mono ?_
     rintro e_W6 W6 ⟨rfl, O3, hT_W6, hf_W6⟩
     have q_ka := hf_W6.keep ka o_ka (by unfold oneX; omega)
     have q_kp := hf_W6.keep kp o_kp (by unfold oneX; omega)
     replace o_ka := hf_W6.not_own (lt_of ka) o_ka
     clear ka; have ka := q_ka; clear q_ka
     have c_ka := cells_of ka
     have f_ka := free_of ka
     have l_ka_W6 := lt_of ka
     replace o_kp := hf_W6.not_own (lt_of kp) o_kp
     clear kp; have kp := q_kp; clear q_kp
     have c_kp := cells_of kp
     have f_kp := free_of kp
     have l_kp_W6 := lt_of kp
     clear kt c_kt f_kt o_kt; have kt := hT_W6.blk; have o_kt := hT_W6.no
     have c_kt := cells_of kt
     have f_kt := free_of kt
     have l_kt_W6 := lt_of kt
     replace hF := hF.trans (hf_W6.mono (fun x h => Or.inr h))
     have z_W6 := hf_W6.size
     clear hA hf_W6; have hA := hT_W6.hA; clear hT_W6
     clear cd1 cd2
     go_wp2_with fail
     refine handed_gen fun V6 hV_V6 => ?_
     have n_ka := congrArg (fun v : World => v.heap[w.heap.size]?) hV_V6
     simp (maxDischargeDepth := 9) only [BK, not_false_eq_true, reduceCtorEq, ka, kp, kt, l_ka_wr, l_kp_wr, l_kt_wr, ne5, ne6, l_ka_V4, l_kp_V4, l_kt_V4, l_ka_W5, l_kp_W5, l_kt_W5, l_ka_V5, l_kp_V5, l_kt_V5, l_ka_W6, l_kp_W6, l_kt_W6] at n_ka
     have n_kp := congrArg (fun v : World => v.heap[W2.heap.size]?) hV_V6
     simp (maxDischargeDepth := 9) only [BK, not_false_eq_true, reduceCtorEq, ka, kp, kt, l_ka_wr, l_kp_wr, l_kt_wr, ne5, ne6, l_ka_V4, l_kp_V4, l_kt_V4, l_ka_W5, l_kp_W5, l_kt_W5, l_ka_V5, l_kp_V5, l_kt_V5, l_ka_W6, l_kp_W6, l_kt_W6] at n_kp
     have n_kt := congrArg (fun v : World => v.heap[W2.heap.size + 1]?) hV_V6
     simp (maxDischargeDepth := 9) only [BK, not_false_eq_true, reduceCtorEq, ka, kp, kt, l_ka_wr, l_kp_wr, l_kt_wr, ne5, ne6, l_ka_V4, l_kp_V4, l_kt_V4, l_ka_W5, l_kp_W5, l_kt_W5, l_ka_V5, l_kp_V5, l_kt_V5, l_ka_W6, l_kp_W6, l_kt_W6] at n_kt
     have n_F : Fr ((twoX W2.heap.size (W2.heap.size + 1))) O1 O3 wr V6 := nF hV_V6
     have n_A : AP V6 (.pointer q) ((⟨t.2.2, 0⟩ : Tb)).s O3 := nA hV_V6
     have z_V6 := Nat.le_of_eq (congrArg (fun v : World => v.heap.size) hV_V6).symm
     try simp only [SZ] at z_V6
     clear ka c_ka f_ka
     clear kp c_kp f_kp
     clear kt c_kt f_kt
     clear hV_V6
     clear hA
     have hA := n_A
     clear n_A
     clear hF
     have hF := n_F
     clear n_F
     have ka := n_ka; clear n_ka
     have c_ka := cells_of ka
     have f_ka := free_of ka
     have l_ka_V6 := lt_of ka
     have kp := n_kp; clear n_kp
     have c_kp := cells_of kp
     have f_kp := free_of kp
     have l_kp_V6 := lt_of kp
     have kt := n_kt; clear n_kt
     have c_kt := cells_of kt
     have f_kt := free_of kt
     have l_kt_V6 := lt_of kt
     have HF2 := Lib.hid (HF.out.trans_own hF hY)
     have hdoc2 := Lib.hid (hdoc.out.fr hF oD hX)
     have oD2 := hF.not_own (by have := HF.out.size; omega) oD
     go_roundg k
     case measure => omega
     case rel => exact ⟨i + 1, (⟨t.2.2, t.2.1, ⟨st.p.wave, st.p.marks, st.p.spots, t.1⟩, st.n⟩ : Bst), O3, by first | rfl | (rw [E3.out]; rfl), by omega, hA, HF2, kp, kt, ka, o_kp, o_kt, o_ka, oD2, hdoc2, Lib.hid (by exact Hb2.out)⟩
    ·
     obtain rfl : i = ds.length := by omega
     have hDlen : (docsM ds).length = ds.length := by unfold docsM; rw [List.length_map]
     have hb := Hb.out
     rw [List.drop_of_length_le (by omega)] at hb
     unfold bTable at hb
     obtain rfl := Option.some.inj hb
     have m1 : decide ((ds.length : Int) < (ds.length : Int)) = false := by simp
     have h3 := H3.out
     unfold bEnd at h3
     rw [ho2, if_pos rfl] at h3
     obtain ⟨t4, ht4⟩ : ∃ t, nextA true 0 (vMake st.s st.p) = t := ⟨_, rfl⟩
     rw [ht4] at h3
     dsimp only at h3
     obtain ⟨u, hu, h3⟩ := Option.map_eq_some_iff.1 h3
     rw [ho2] at kt
     have Hu := Lib.hid hu; have H3' := Lib.hid h3; have Ht4 := Lib.hid ht4
     have hok4 : t4.2.1 = true := congrArg (fun x => x.2.1) h3
     clear hb Hb hlt hk h3 hu ht4
     have hF := Fr.refl ((twoX W2.heap.size (W2.heap.size + 1))) O1 wr
     have c_ka := cells_of ka
     have f_ka := free_of ka
     have l_ka_wr := lt_of ka
     have c_kp := cells_of kp
     have f_kp := free_of kp
     have l_kp_wr := lt_of kp
     have c_kt := cells_of kt
     have f_kt := free_of kt
     have l_kt_wr := lt_of kt
     go_wp2_with fail
     refine calls_gen fun V4 hV_V4 => ?_
     have n_ka := congrArg (fun v : World => v.heap[w.heap.size]?) hV_V4
     simp (maxDischargeDepth := 9) only [BK, not_false_eq_true, reduceCtorEq, ka, kp, kt, l_ka_wr, l_kp_wr, l_kt_wr, ne5, ne6] at n_ka
     have n_kp := congrArg (fun v : World => v.heap[W2.heap.size]?) hV_V4
     simp (maxDischargeDepth := 9) only [BK, not_false_eq_true, reduceCtorEq, ka, kp, kt, l_ka_wr, l_kp_wr, l_kt_wr, ne5, ne6] at n_kp
     have n_kt := congrArg (fun v : World => v.heap[W2.heap.size + 1]?) hV_V4
     simp (maxDischargeDepth := 9) only [BK, not_false_eq_true, reduceCtorEq, ka, kp, kt, l_ka_wr, l_kp_wr, l_kt_wr, ne5, ne6] at n_kt
     have n_F : Fr ((twoX W2.heap.size (W2.heap.size + 1))) O1 O1 wr V4 := nF hV_V4
     have n_A : AP V4 (.pointer q) st.s O1 := nA hV_V4
     have z_V4 := Nat.le_of_eq (congrArg (fun v : World => v.heap.size) hV_V4).symm
     try simp only [SZ] at z_V4
     clear ka c_ka f_ka
     clear kp c_kp f_kp
     clear kt c_kt f_kt
     clear hV_V4
     clear hA
     have hA := n_A
     clear n_A
     clear hF
     have hF := n_F
     clear n_F
     have ka := n_ka; clear n_ka
     have c_ka := cells_of ka
     have f_ka := free_of ka
     have l_ka_V4 := lt_of ka
     have kp := n_kp; clear n_kp
     have c_kp := cells_of kp
     have f_kp := free_of kp
     have l_kp_V4 := lt_of kp
     have kt := n_kt; clear n_kt
     have c_kt := cells_of kt
     have f_kt := free_of kt
     have l_kt_V4 := lt_of kt
     refine (vMake_calls st.p _ hA).mono ?_
     rintro e_W5 W5 ⟨rfl, O2, hA_W5, hf_W5⟩
     have q_ka := hf_W5.keep ka o_ka (fun h => h)
     have q_kp := hf_W5.keep kp o_kp (fun h => h)
     have q_kt := hf_W5.keep kt o_kt (fun h => h)
     replace o_ka := hf_W5.not_own (lt_of ka) o_ka
     clear ka; have ka := q_ka; clear q_ka
     have c_ka := cells_of ka
     have f_ka := free_of ka
     have l_ka_W5 := lt_of ka
     replace o_kp := hf_W5.not_own (lt_of kp) o_kp
     clear kp; have kp := q_kp; clear q_kp
     have c_kp := cells_of kp
     have f_kp := free_of kp
     have l_kp_W5 := lt_of kp
     replace o_kt := hf_W5.not_own (lt_of kt) o_kt
     clear kt; have kt := q_kt; clear q_kt
     have c_kt := cells_of kt
     have f_kt := free_of kt
     have l_kt_W5 := lt_of kt
     replace hF := hF.trans hf_W5.widen
     have z_W5 := hf_W5.size
     clear hA hf_W5; have hA := hA_W5; clear hA_W5
     go_wp2_with fail
     refine calls_gen fun V5 hV_V5 => ?_
     have n_ka := congrArg (fun v : World => v.heap[w.heap.size]?) hV_V5
     simp (maxDischargeDepth := 9) only [BK, not_false_eq_true, reduceCtorEq, ka, kp, kt, l_ka_wr, l_kp_wr, l_kt_wr, ne5, ne6, l_ka_V4, l_kp_V4, l_kt_V4, l_ka_W5, l_kp_W5, l_kt_W5] at n_ka
     have n_kp := congrArg (fun v : World => v.heap[W2.heap.size]?) hV_V5
     simp (maxDischargeDepth := 9) only [BK, not_false_eq_true, reduceCtorEq, ka, kp, kt, l_ka_wr, l_kp_wr, l_kt_wr, ne5, ne6, l_ka_V4, l_kp_V4, l_kt_V4, l_ka_W5, l_kp_W5, l_kt_W5] at n_kp
     have n_kt := congrArg (fun v : World => v.heap[W2.heap.size + 1]?) hV_V5
     simp (maxDischargeDepth := 9) only [BK, not_false_eq_true, reduceCtorEq, ka, kp, kt, l_ka_wr, l_kp_wr, l_kt_wr, ne5, ne6, l_ka_V4, l_kp_V4, l_kt_V4, l_ka_W5, l_kp_W5, l_kt_W5] at n_kt
     have n_F : Fr ((twoX W2.heap.size (W2.heap.size + 1))) O1 O2 wr V5 := nF hV_V5
     have n_A : AP V5 (.pointer q) ((vMake st.s st.p).2.2) O2 := nA hV_V5
     have z_V5 := Nat.le_of_eq (congrArg (fun v : World => v.heap.size) hV_V5).symm
     try simp only [SZ] at z_V5
     clear ka c_ka f_ka
     clear kp c_kp f_kp
     clear kt c_kt f_kt
     clear hV_V5
     clear hA
     have hA := n_A
     clear n_A
     clear hF
     have hF := n_F
     clear n_F
     have ka := n_ka; clear n_ka
     have c_ka := cells_of ka
     have f_ka := free_of ka
     have l_ka_V5 := lt_of ka
     have kp := n_kp; clear n_kp
     have c_kp := cells_of kp
     have f_kp := free_of kp
     have l_kp_V5 := lt_of kp
     have kt := n_kt; clear n_kt
     have c_kt := cells_of kt
     have f_kt := free_of kt
     have l_kt_V5 := lt_of kt
     refine (next_t (W2.heap.size + 1) w.heap.size true 0 (vMake st.s st.p) t4 Ht4.out _ hA kt ka o_kt o_ka ne6).mono ?_
     rintro e_W6 W6 ⟨rfl, O3, hT_W6, hf_W6⟩
     have q_ka := hf_W6.keep ka o_ka (by unfold oneX; omega)
     have q_kp := hf_W6.keep kp o_kp (by unfold oneX; omega)
     replace o_ka := hf_W6.not_own (lt_of ka) o_ka
     clear ka; have ka := q_ka; clear q_ka
     have c_ka := cells_of ka
     have f_ka := free_of ka
     have l_ka_W6 := lt_of ka
     replace o_kp := hf_W6.not_own (lt_of kp) o_kp
     clear kp; have kp := q_kp; clear q_kp
     have c_kp := cells_of kp
     have f_kp := free_of kp
     have l_kp_W6 := lt_of kp
     clear kt c_kt f_kt o_kt; have kt := hT_W6.blk; have o_kt := hT_W6.no
     have c_kt := cells_of kt
     have f_kt := free_of kt
     have l_kt_W6 := lt_of kt
     replace hF := hF.trans (hf_W6.mono (fun x h => Or.inr h))
     have z_W6 := hf_W6.size
     clear hA hf_W6; have hA := hT_W6.hA; clear hT_W6
     rw [hok4] at kt
     go_wp2_with fail
     refine wp_gen fun V6 hV_V6 => ?_
     have n_ka := congrArg (fun v : World => v.heap[w.heap.size]?) hV_V6
     simp (maxDischargeDepth := 9) only [BK, not_false_eq_true, reduceCtorEq, ka, kp, kt, l_ka_wr, l_kp_wr, l_kt_wr, ne5, ne6, l_ka_V4, l_kp_V4, l_kt_V4, l_ka_W5, l_kp_W5, l_kt_W5, l_ka_V5, l_kp_V5, l_kt_V5, l_ka_W6, l_kp_W6, l_kt_W6] at n_ka
     have n_kp := congrArg (fun v : World => v.heap[W2.heap.size]?) hV_V6
     simp (maxDischargeDepth := 9) only [BK, not_false_eq_true, reduceCtorEq, ka, kp, kt, l_ka_wr, l_kp_wr, l_kt_wr, ne5, ne6, l_ka_V4, l_kp_V4, l_kt_V4, l_ka_W5, l_kp_W5, l_kt_W5, l_ka_V5, l_kp_V5, l_kt_V5, l_ka_W6, l_kp_W6, l_kt_W6] at n_kp
     have n_kt := congrArg (fun v : World => v.heap[W2.heap.size + 1]?) hV_V6
     simp (maxDischargeDepth := 9) only [BK, not_false_eq_true, reduceCtorEq, ka, kp, kt, l_ka_wr, l_kp_wr, l_kt_wr, ne5, ne6, l_ka_V4, l_kp_V4, l_kt_V4, l_ka_W5, l_kp_W5, l_kt_W5, l_ka_V5, l_kp_V5, l_kt_V5, l_ka_W6, l_kp_W6, l_kt_W6] at n_kt
     have n_kl := congrArg (fun v : World => v.heap[W6.heap.size]?) hV_V6
     simp (maxDischargeDepth := 9) only [BK, not_false_eq_true, reduceCtorEq, ka, kp, kt, l_ka_wr, l_kp_wr, l_kt_wr, ne5, ne6, l_ka_V4, l_kp_V4, l_kt_V4, l_ka_W5, l_kp_W5, l_kt_W5, l_ka_V5, l_kp_V5, l_kt_V5, l_ka_W6, l_kp_W6, l_kt_W6] at n_kl
     have o_kl : ¬ O3 (W6.heap.size) := by first | exact hA.new (Nat.le_refl _) | exact hA.new (by omega)
     have n_F : Fr ((twoX W2.heap.size (W2.heap.size + 1))) O1 O3 wr V6 := nF hV_V6
     have n_A : AP V6 (.pointer q) ((⟨t4.2.2, 0⟩ : Tb)).s O3 := nA hV_V6
     have z_V6 := Nat.le_of_eq (congrArg (fun v : World => v.heap.size) hV_V6).symm
     try simp only [SZ] at z_V6
     clear ka c_ka f_ka
     clear kp c_kp f_kp
     clear kt c_kt f_kt
     clear hV_V6
     clear hA
     have hA := n_A
     clear n_A
     clear hF
     have hF := n_F
     clear n_F
     have ka := n_ka; clear n_ka
     have c_ka := cells_of ka
     have f_ka := free_of ka
     have l_ka_V6 := lt_of ka
     have kp := n_kp; clear n_kp
     have c_kp := cells_of kp
     have f_kp := free_of kp
     have l_kp_V6 := lt_of kp
     have kt := n_kt; clear n_kt
     have c_kt := cells_of kt
     have f_kt := free_of kt
     have l_kt_V6 := lt_of kt
     have kl := n_kl; clear n_kl
     have c_kl := cells_of kl
     have f_kl := free_of kl
     have l_kl_V6 := lt_of kl
     have HF6 := Lib.hid (HF.out.trans_own hF hY)
     have HA6 := Lib.hid hA
     have ka2 := ka; have kt2 := kt; have o_ka2 := o_ka; have o_kt2 := o_kt
     clear hA hF HF kp c_kp f_kp o_kp ka c_ka f_ka kt c_kt f_kt o_ka o_kt c_kl f_kl
     go_loopw [171] (fun y w3 => ∃ i : Nat, i ≤ 4 ∧ y = .int .i64 i ∧ ∃ O', AP w3 (.pointer q) ([st.p.wave, st.p.marks, st.p.spots, st.p.table].take i |>.foldl dropP t4.2.2) O' ∧ Fr noX O O' w w3 ∧ w3.heap[W6.heap.size]? = some (.cells #[.int .i64 st.p.wave, .int .i64 st.p.marks, .int .i64 st.p.spots, .int .i64 st.p.table] 3 (0, 0)) ∧ w3.heap[w.heap.size]? = some (.cells #[.pointer q] 25 (0, 0)) ∧ w3.heap[W2.heap.size + 1]? = some (.cells #[.bool true] 4 (0, 0)) ∧ ¬ O' W6.heap.size ∧ ¬ O' w.heap.size ∧ ¬ O' (W2.heap.size + 1)) (fun y _ => 4 - (intOf y).toNat)
     case atStart => exact ⟨0, by omega, rfl, _, HA6.out, HF6.out, kl, ka2, kt2, o_kl, o_ka2, o_kt2⟩
     case round =>
      clear HA6 HF6 kl ka2 kt2 o_kl o_ka2 o_kt2
      obtain ⟨i, hi, rfl, O', hA', hF', kl, ka2, kt2, o_kl, o_ka2, o_kt2⟩ := hrel
      have c_kl := cells_of kl
      rcases (show i = 0 ∨ i = 1 ∨ i = 2 ∨ i = 3 ∨ i = 4 by omega) with rfl | rfl | rfl | rfl | rfl
      ·
       have HA := Lib.hid hA'; have HF5 := Lib.hid hF'; clear hA' hF'
       by_cases hz : st.p.wave = 0
       ·
        have z1 : (st.p.wave != 0) = false := by simp [hz]
        have hd : Hid ((dropP t4.2.2 st.p.wave) = t4.2.2) := Lib.hid (by show dropP _ _ = _; unfold dropP; rw [if_pos hz])
        clear hz
        go_wp2_with fail
        go_roundw
        case rel => exact ⟨1, by omega, rfl, O', by show AP wr (.pointer q) (dropP t4.2.2 st.p.wave) O'; rw [hd.out]; exact HA.out, HF5.out, kl, ka2, kt2, o_kl, o_ka2, o_kt2⟩
        case measure => simp [intOf]
       ·
        have z1 : (st.p.wave != 0) = true := by simp [hz]
        have hd : Hid ((dropP t4.2.2 st.p.wave) = (t4.2.2).drop st.p.wave) := Lib.hid (by show dropP _ _ = _; unfold dropP; rw [if_neg hz])
        clear hz
        have c_ka2 := cells_of ka2
        go_wp2_with fail
        refine (drop_calls _ _ HA.out).mono ?_
        rintro e1 w1 ⟨rfl, O3, hA1, hf1⟩
        go_wp2_with fail
        go_roundw
        case rel => exact ⟨1, by omega, rfl, O3, by show AP w1 (.pointer q) (dropP t4.2.2 st.p.wave) O3; rw [hd.out]; exact hA1, HF5.out.trans hf1.widen, hf1.keep kl o_kl (fun h => h), hf1.keep ka2 o_ka2 (fun h => h), hf1.keep kt2 o_kt2 (fun h => h), hf1.not_own (lt_of kl) o_kl, hf1.not_own (lt_of ka2) o_ka2, hf1.not_own (lt_of kt2) o_kt2⟩
        case measure => simp [intOf]
      ·
       have HA := Lib.hid hA'; have HF5 := Lib.hid hF'; clear hA' hF'
       by_cases hz : st.p.marks = 0
       ·
        have z1 : (st.p.marks != 0) = false := by simp [hz]
        have hd : Hid ((dropP (dropP t4.2.2 st.p.wave) st.p.marks) = (dropP t4.2.2 st.p.wave)) := Lib.hid (by show dropP _ _ = _; unfold dropP; rw [if_pos hz])
        clear hz
        go_wp2_with fail
        go_roundw
        case rel => exact ⟨2, by omega, rfl, O', by show AP wr (.pointer q) (dropP (dropP t4.2.2 st.p.wave) st.p.marks) O'; rw [hd.out]; exact HA.out, HF5.out, kl, ka2, kt2, o_kl, o_ka2, o_kt2⟩
        case measure => simp [intOf]
       ·
        have z1 : (st.p.marks != 0) = true := by simp [hz]
        have hd : Hid ((dropP (dropP t4.2.2 st.p.wave) st.p.marks) = ((dropP t4.2.2 st.p.wave)).drop st.p.marks) := Lib.hid (by show dropP _ _ = _; unfold dropP; rw [if_neg hz])
        clear hz
        have c_ka2 := cells_of ka2
        go_wp2_with fail
        refine (drop_calls _ _ HA.out).mono ?_
        rintro e1 w1 ⟨rfl, O3, hA1, hf1⟩
        go_wp2_with fail
        go_roundw
        case rel => exact ⟨2, by omega, rfl, O3, by show AP w1 (.pointer q) (dropP (dropP t4.2.2 st.p.wave) st.p.marks) O3; rw [hd.out]; exact hA1, HF5.out.trans hf1.widen, hf1.keep kl o_kl (fun h => h), hf1.keep ka2 o_ka2 (fun h => h), hf1.keep kt2 o_kt2 (fun h => h), hf1.not_own (lt_of kl) o_kl, hf1.not_own (lt_of ka2) o_ka2, hf1.not_own (lt_of kt2) o_kt2⟩
        case measure => simp [intOf]
      ·
       have HA := Lib.hid hA'; have HF5 := Lib.hid hF'; clear hA' hF'
       by_cases hz : st.p.spots = 0
       ·
        have z1 : (st.p.spots != 0) = false := by simp [hz]
        have hd : Hid ((dropP (dropP (dropP t4.2.2 st.p.wave) st.p.marks) st.p.spots) = (dropP (dropP t4.2.2 st.p.wave) st.p.marks)) := Lib.hid (by show dropP _ _ = _; unfold dropP; rw [if_pos hz])
        clear hz
        go_wp2_with fail
        go_roundw
        case rel => exact ⟨3, by omega, rfl, O', by show AP wr (.pointer q) (dropP (dropP (dropP t4.2.2 st.p.wave) st.p.marks) st.p.spots) O'; rw [hd.out]; exact HA.out, HF5.out, kl, ka2, kt2, o_kl, o_ka2, o_kt2⟩
        case measure => simp [intOf]
       ·
        have z1 : (st.p.spots != 0) = true := by simp [hz]
        have hd : Hid ((dropP (dropP (dropP t4.2.2 st.p.wave) st.p.marks) st.p.spots) = ((dropP (dropP t4.2.2 st.p.wave) st.p.marks)).drop st.p.spots) := Lib.hid (by show dropP _ _ = _; unfold dropP; rw [if_neg hz])
        clear hz
        have c_ka2 := cells_of ka2
        go_wp2_with fail
        refine (drop_calls _ _ HA.out).mono ?_
        rintro e1 w1 ⟨rfl, O3, hA1, hf1⟩
        go_wp2_with fail
        go_roundw
        case rel => exact ⟨3, by omega, rfl, O3, by show AP w1 (.pointer q) (dropP (dropP (dropP t4.2.2 st.p.wave) st.p.marks) st.p.spots) O3; rw [hd.out]; exact hA1, HF5.out.trans hf1.widen, hf1.keep kl o_kl (fun h => h), hf1.keep ka2 o_ka2 (fun h => h), hf1.keep kt2 o_kt2 (fun h => h), hf1.not_own (lt_of kl) o_kl, hf1.not_own (lt_of ka2) o_ka2, hf1.not_own (lt_of kt2) o_kt2⟩
        case measure => simp [intOf]
      ·
       have HA := Lib.hid hA'; have HF5 := Lib.hid hF'; clear hA' hF'
       by_cases hz : st.p.table = 0
       ·
        have z1 : (st.p.table != 0) = false := by simp [hz]
        have hd : Hid ((dropP (dropP (dropP (dropP t4.2.2 st.p.wave) st.p.marks) st.p.spots) st.p.table) = (dropP (dropP (dropP t4.2.2 st.p.wave) st.p.marks) st.p.spots)) := Lib.hid (by show dropP _ _ = _; unfold dropP; rw [if_pos hz])
        clear hz
        go_wp2_with fail
        go_roundw
        case rel => exact ⟨4, by omega, rfl, O', by show AP wr (.pointer q) (dropP (dropP (dropP (dropP t4.2.2 st.p.wave) st.p.marks) st.p.spots) st.p.table) O'; rw [hd.out]; exact HA.out, HF5.out, kl, ka2, kt2, o_kl, o_ka2, o_kt2⟩
        case measure => simp [intOf]
       ·
        have z1 : (st.p.table != 0) = true := by simp [hz]
        have hd : Hid ((dropP (dropP (dropP (dropP t4.2.2 st.p.wave) st.p.marks) st.p.spots) st.p.table) = ((dropP (dropP (dropP t4.2.2 st.p.wave) st.p.marks) st.p.spots)).drop st.p.table) := Lib.hid (by show dropP _ _ = _; unfold dropP; rw [if_neg hz])
        clear hz
        have c_ka2 := cells_of ka2
        go_wp2_with fail
        refine (drop_calls _ _ HA.out).mono ?_
        rintro e1 w1 ⟨rfl, O3, hA1, hf1⟩
        go_wp2_with fail
        go_roundw
        case rel => exact ⟨4, by omega, rfl, O3, by show AP w1 (.pointer q) (dropP (dropP (dropP (dropP t4.2.2 st.p.wave) st.p.marks) st.p.spots) st.p.table) O3; rw [hd.out]; exact hA1, HF5.out.trans hf1.widen, hf1.keep kl o_kl (fun h => h), hf1.keep ka2 o_ka2 (fun h => h), hf1.keep kt2 o_kt2 (fun h => h), hf1.not_own (lt_of kl) o_kl, hf1.not_own (lt_of ka2) o_ka2, hf1.not_own (lt_of kt2) o_kt2⟩
        case measure => simp [intOf]
      ·
       have HA := Lib.hid hA'; have HF5 := Lib.hid hF'; clear hA' hF' c_kl
       have hA7 : AP wr (.pointer q) (dropP (dropP (dropP (dropP t4.2.2 st.p.wave) st.p.marks) st.p.spots) st.p.table) O' := HA.out
       have HA7 := Lib.hid hA7; clear hA7 HA
       have c_ka2 := cells_of ka2
       have hlast : root = t4.1 ∧ s' = u.2 := by
        have h3 := H3'.out
        rw [hok4] at h3
        simp only [Bool.true_eq_false, false_and, if_false, Prod.mk.injEq] at h3
        exact ⟨h3.1.symm, h3.2.2.symm⟩
       obtain ⟨rfl, rfl⟩ := hlast
       go_wp2_with fail
       refine (work_calls 1073741824 u Hu.out _ HA7.out).mono ?_
       rintro e8 W8 ⟨rfl, O8, hA8, hf8⟩
       have kt8 := hf8.keep kt2 o_kt2 (fun h => h)
       have c_kt8 := cells_of kt8
       have HA8 := Lib.hid hA8
       have HF8 := Lib.hid (HF5.out.trans hf8)
       clear hA8 hf8
       have hA := HA8.out
       clear c_kt8 c_ka2
       have hF := Fr.refl (noX) O8 W8
       have c_kt8 := cells_of kt8
       have f_kt8 := free_of kt8
       have l_kt8_W8 := lt_of kt8
       go_wp2_with fail
       refine wp_gen fun V9 hV_V9 => ?_
       have n_kt8 := congrArg (fun v : World => v.heap[W2.heap.size + 1]?) hV_V9
       simp (maxDischargeDepth := 9) only [BK, not_false_eq_true, reduceCtorEq, kt8, l_kt8_W8] at n_kt8
       have n_F : Fr (noX) O8 O8 W8 V9 := nF hV_V9
       have n_A : AP V9 (.pointer q) u.2 O8 := nA hV_V9
       have z_V9 := Nat.le_of_eq (congrArg (fun v : World => v.heap.size) hV_V9).symm
       try simp only [SZ] at z_V9
       clear kt8 c_kt8 f_kt8
       clear hV_V9
       clear hA
       have hA := n_A
       clear n_A
       clear hF
       have hF := n_F
       clear n_F
       have kt8 := n_kt8; clear n_kt8
       have c_kt8 := cells_of kt8
       have f_kt8 := free_of kt8
       have l_kt8_V9 := lt_of kt8
       refine wp_region_noPanic ?_
       refine wp_region_held_drew (S := fun v => (∀ o, v.cell? ⟨W2.heap.size + 1, o, none⟩ = V9.cell? ⟨W2.heap.size + 1, o, none⟩) ∧ (V9.heap.size ≤ v.heap.size) ∧ AP v (.pointer q) u.2 O8) (by kernel_rfl) ⟨(fun _ => rfl), (Nat.le_refl _), hA.drew⟩ (fun hHeld => ?_)
       generalize hV_V9d : V9.drew = V9d at hHeld ⊢
       have n_kt8 : V9d.heap[W2.heap.size + 1]? = V9.heap[W2.heap.size + 1]? := by rw [← hV_V9d]; rfl
       have d_kt8 := n_kt8.trans kt8
       clear n_kt8 c_kt8 f_kt8
       have n_A : AP V9d (.pointer q) u.2 O8 := by rw [← hV_V9d]; exact hA.drew
       clear hA; have hA := n_A; clear n_A
       have n_F : Fr (noX) O8 O8 W8 V9d := by rw [← hV_V9d]; exact hF.drew
       clear hF; have hF := n_F; clear n_F
       have z_V9d : V9.heap.size ≤ V9d.heap.size := by rw [← hV_V9d]; exact Nat.le_refl _
       have v_kt8 := cells_of kt8
       clear kt8; have kt8 := d_kt8; clear d_kt8
       have c_kt8 := cells_of kt8
       have f_kt8 := free_of kt8
       have l_kt8_V9d := lt_of kt8
       clear hV_V9d
       refine ty (i := 0) (v := ?_) rfl hHeld ?_ ?_
       rotate_left
       focus (intro w hSw; go_simp; (try simp only [IntWalk.i64_left]); try (with_reducible rfl))
       try simp only [PT]
       refine ty (i := 1) (v := ?_) rfl hHeld ?_ ?_
       rotate_left
       focus (intro w hSw; go_simp; (try simp only [IntWalk.i64_left]); try (with_reducible rfl))
       try simp only [PT]
       refine wpAnyH_ready (rs := [2]) (by kernel_rfl) (by simp) ?_
       refine ready_at rfl (fun K hK => ?_) AllReadyH.nil
       go_simp
       refine hK.out _ _ hHeld (fun hHeld => ?_)
       clear hK K
       try simp only [PT]
       refine wpAnyH_ready (rs := [3]) (by kernel_rfl) (by simp) ?_
       refine ready_at rfl (fun K hK => ?_) AllReadyH.nil
       go_simp
       refine hK.out _ _ hHeld (fun hHeld => ?_)
       clear hK K
       try simp only [PT]
       refine wpAnyH_done (by kernel_rfl) ?_ _
       refine NoPanic.normal ?_
       have HFF := Lib.hid (HF8.out.trans hF)
       have HAA := Lib.hid hA
       clear hF hA
       go_wp2_with fail
       go_ret2
       exact ⟨rfl, O8, HAA.out, HFF.out⟩
end Go.Proofs.YtpdpcgmkpgfblaaGreat
/- The arena's New. -/
namespace Go.Proofs.YtpdpcgmkpgfblaaGreat
set_option linter.unusedSimpArgs false
set_option linter.unusedVariables false
set_option linter.unnecessarySimpa false
open Go.RowKit
attribute [local go_sem ↓] Go.wp_at_zero Go.wp_at_succ
attribute [local go_sem] lt_s2 lt_s3 lt_s4
theorem made_ofF (c : Array Value) (N : Nat) (f : Nat → Value) (h : ∀ i, i < N → c[i % c.size]! = f i) : madeCells c N = ofF N f := by
  apply Array.ext
  · rw [size_madeCells, ofF_size]
  · intro i h1 h2
    rw [size_madeCells] at h1
    simp only [madeCells, ofF, Array.getElem_map, Array.getElem_range, Array.getElem_ofFn]
    exact h i h1
theorem make_nodes (n : Nat) (h2 : n ≤ 6000) (w : World) : (Instr.makeSlice 71 (.int .i64 ((n : Int) + 1)) (.int .i64 ((n : Int) + 1))).run Tryz.prog w = .ok (.slice (some ⟨w.heap.size, 0, none⟩) (n + 1) (n + 1)) (w.alloc (.cells (ofF ((n + 1) * 7) (nodeF (Ar.new n))) 44 (0, 0))) := by
  obtain ⟨i0, hi0, hz0, hz1, hz2⟩ := info_parts (P := Tryz.prog) (e := 44) (z := .agg #[.int .i64 0, .int .i64 0, .int .i64 0, .int .i64 0, .int .i64 0, .int .u64 0, .int .u64 0]) (size := 7) (bytes := 56) (by kernel_rfl)
  have h := run_makeSlice (P := Tryz.prog) w 71 44 i0 _ Tryz.underlying71 hi0 hz0 .i64 .i64 ((n : Int) + 1) ((n : Int) + 1) (by omega) (by omega) (by rw [hz1]; omega) (by rw [hz2]; omega) (by omega)
  rw [h, hz1, show ((n : Int) + 1).toNat = n + 1 by omega, made_ofF _ _ (nodeF (Ar.new n))]
  intro i _
  show (#[Value.int .i64 0, .int .i64 0, .int .i64 0, .int .i64 0, .int .i64 0, .int .u64 0, .int .u64 0] : Array Value)[i % 7]! = Nd.zero.cell (i % 7)
  rcases (show i % 7 = 0 ∨ i % 7 = 1 ∨ i % 7 = 2 ∨ i % 7 = 3 ∨ i % 7 = 4 ∨ i % 7 = 5 ∨ i % 7 = 6 by omega) with h | h | h | h | h | h | h <;> rw [h] <;> rfl
theorem make_counts (n : Nat) (h2 : n ≤ 6000) (w : World) : (Instr.makeSlice 72 (.int .i64 ((n : Int) + 1)) (.int .i64 ((n : Int) + 1))).run Tryz.prog w = .ok (.slice (some ⟨w.heap.size, 0, none⟩) (n + 1) (n + 1)) (w.alloc (.cells (ofF (n + 1) (countF (Ar.new n))) 3 (0, 0))) := by
  obtain ⟨i0, hi0, hz0, hz1, hz2⟩ := info_parts (P := Tryz.prog) (e := 3) (z := .int .i64 0) (size := 1) (bytes := 8) (by kernel_rfl)
  have h := run_makeSlice (P := Tryz.prog) w 72 3 i0 _ Tryz.underlying72 hi0 hz0 .i64 .i64 ((n : Int) + 1) ((n : Int) + 1) (by omega) (by omega) (by rw [hz1]; omega) (by rw [hz2]; omega) (by omega)
  rw [h, hz1, show ((n : Int) + 1).toNat = n + 1 by omega, Nat.mul_one, made_ofF _ _ (countF (Ar.new n))]
  intro i _
  show (#[Value.int .i64 0] : Array Value)[i % 1]! = .int .i64 0
  rw [Nat.mod_one]; rfl
theorem make_useds (n : Nat) (h2 : n ≤ 6000) (w : World) : (Instr.makeSlice 73 (.int .i64 ((n : Int) + 1)) (.int .i64 ((n : Int) + 1))).run Tryz.prog w = .ok (.slice (some ⟨w.heap.size, 0, none⟩) (n + 1) (n + 1)) (w.alloc (.cells (ofF (n + 1) (usedF (Ar.new n))) 4 (0, 0))) := by
  obtain ⟨i0, hi0, hz0, hz1, hz2⟩ := info_parts (P := Tryz.prog) (e := 4) (z := .bool false) (size := 1) (bytes := 1) (by kernel_rfl)
  have h := run_makeSlice (P := Tryz.prog) w 73 4 i0 _ Tryz.underlying73 hi0 hz0 .i64 .i64 ((n : Int) + 1) ((n : Int) + 1) (by omega) (by omega) (by rw [hz1]; omega) (by rw [hz2]; omega) (by omega)
  rw [h, hz1, show ((n : Int) + 1).toNat = n + 1 by omega, Nat.mul_one, made_ofF _ _ (usedF (Ar.new n))]
  intro i _
  show (#[Value.bool false] : Array Value)[i % 1]! = .bool false
  rw [Nat.mod_one]; rfl
theorem ap_new {W w : World} {n p nb cb ub : Nat} (h2 : n ≤ 6000) (hp : W.heap[p]? = some (.cells (ArC n nb cb ub (.slice none 0 0) 0 0) 75 (0, 0))) (hn : W.heap[nb]? = some (.cells (ofF ((n + 1) * 7) (nodeF (Ar.new n))) 44 (0, 0)))
    (hc : W.heap[cb]? = some (.cells (ofF (n + 1) (countF (Ar.new n))) 3 (0, 0))) (hu : W.heap[ub]? = some (.cells (ofF (n + 1) (usedF (Ar.new n))) 4 (0, 0))) (b1 : w.heap.size ≤ p) (b2 : w.heap.size ≤ nb) (b3 : w.heap.size ≤ cb) (b4 : w.heap.size ≤ ub) :
    ∃ O, AP W (.pointer (some ⟨p, 0, none⟩)) (Ar.new n) O ∧ (∀ b, O b → w.heap.size ≤ b) := by
  refine ⟨fun b => b = p ∨ b = nb ∨ b = cb ∨ b = ub, ⟨Ar.Wq.new n h2, .inr ⟨p, nb, cb, ub, .slice none 0 0, rfl, ⟨hp, hn, hc, hu, .inl ⟨rfl, rfl⟩, by simp [Value.ownBlock], .inl rfl, .inr (.inl rfl), .inr (.inr (.inl rfl)), .inr (.inr (.inr rfl)), by simp [Value.ownBlock], ?_⟩⟩⟩, ?_⟩
  · rintro b (rfl | rfl | rfl | rfl)
    · exact lt_of hp
    · exact lt_of hn
    · exact lt_of hc
    · exact lt_of hu
  · rintro b (rfl | rfl | rfl | rfl) <;> assumption
set_option maxRecDepth 100000 in
set_option maxHeartbeats 2000000 in
theorem new_calls (n : Nat) (h1 : 1 ≤ n) (h2 : n ≤ 6000) (w : World) :
    Calls Tryz.prog 11 #[.int .i64 (n : Int)] w fun e w' => ∃ p O, e = .returned (.pointer (some ⟨p, 0, none⟩)) ∧ AP w' (.pointer (some ⟨p, 0, none⟩)) (Ar.new n) O ∧ (∀ b, O b → w.heap.size ≤ b) ∧ Below w.heap.size w w' := by
  have d1 : decide ((n : Int) < 1) = false := by simp; omega
  have d2 : decide ((6000 : Int) < n) = false := by simp; omega
  have m2 := fun w => make_nodes n h2 w
  have m5 := fun w => make_counts n h2 w
  have m8 := fun w => make_useds n h2 w
  have H2 := Lib.hid h2
  go_enter Tryz.func11, Tryz.ntmps11
  go_wp2_with fail
  refine wp_gen fun V hV_V => ?_
  have n_B : Below w.heap.size w V := nB hV_V
  have z_V := Nat.le_of_eq (congrArg (fun v : World => v.heap.size) hV_V).symm
  try simp only [SZ] at z_V
  clear hV_V
  skip
  have hB := n_B
  clear n_B
  refine wp_region_noPanic ?_
  refine wp_region_held_drew (S := fun v => (V.heap.size ≤ v.heap.size) ∧ True) (by kernel_rfl) ⟨(Nat.le_refl _), trivial⟩ (fun hHeld => ?_)
  generalize hV_Vd : V.drew = Vd at hHeld ⊢
  have n_B : Below w.heap.size w Vd := by rw [← hV_Vd]; exact hB.drew
  clear hB; have hB := n_B; clear n_B
  have z_Vd : V.heap.size ≤ Vd.heap.size := by rw [← hV_Vd]; exact Nat.le_refl _
  clear hV_Vd
  refine ty (i := 0) (v := ?_) rfl hHeld ?_ ?_
  rotate_left
  focus (intro w hSw; go_simp; (try simp only [IntWalk.i64_left]); try (with_reducible rfl))
  try simp only [PT]
  refine ty (i := 1) (v := ?_) rfl hHeld ?_ ?_
  rotate_left
  focus (intro w hSw; go_simp; (try simp only [IntWalk.i64_left]); try (with_reducible rfl))
  try simp only [PT]
  refine ty (i := 3) (v := ?_) rfl hHeld ?_ ?_
  rotate_left
  focus (intro w hSw; go_simp; (try simp only [IntWalk.i64_left]); try (with_reducible rfl))
  try simp only [PT]
  refine ty (i := 4) (v := ?_) rfl hHeld ?_ ?_
  rotate_left
  focus (intro w hSw; go_simp; (try simp only [IntWalk.i64_left]); try (with_reducible rfl))
  try simp only [PT]
  refine ty (i := 6) (v := ?_) rfl hHeld ?_ ?_
  rotate_left
  focus (intro w hSw; go_simp; (try simp only [IntWalk.i64_left]); try (with_reducible rfl))
  try simp only [PT]
  refine ty (i := 7) (v := ?_) rfl hHeld ?_ ?_
  rotate_left
  focus (intro w hSw; go_simp; (try simp only [IntWalk.i64_left]); try (with_reducible rfl))
  try simp only [PT]
  have ew : wrap64 ((n : Int) + 1) = (n : Int) + 1 := IntWalk.wrap64_in _ (by omega)
  simp only [ew]
  clear ew
  have hB1 := hB
  clear hB
  refine wpAnyH_ready (rs := [2, 5, 8]) (by kernel_rfl) (by simp) ?_
  refine ready_at rfl (fun K hK => ?_) ?_
  · go_simp
    refine gen_app (K := K) (fun D1 e1 => ?_)
    have k1 := (congrArg (fun v : World => v.heap[Vd.heap.size]?) e1).trans (blk_new _ _ _ rfl)
    try dsimp only at k1
    have b1 : Below w.heap.size w D1 := by rw [e1]; exact hB1.alloc hB1.size _
    have s1 : D1.heap.size = Vd.heap.size + 1 := by rw [e1, siz_alloc]
    clear e1
    refine hK.out _ _ ⟨by omega, trivial⟩ (fun hHeld => ?_)
    clear hK K
    try simp only [PT]
    refine wpAnyH_ready (rs := [5, 8]) (by kernel_rfl) (by simp) ?_
    refine ready_at rfl (fun K hK => ?_) ?_
    · go_simp
      refine gen_app (K := K) (fun D2 e2 => ?_)
      have k2 := (congrArg (fun v : World => v.heap[D1.heap.size]?) e2).trans (blk_new _ _ _ rfl)
      try dsimp only at k2
      have k1' := (congrArg (fun v : World => v.heap[Vd.heap.size]?) e2).trans ((blk_old _ _ _ (by omega)).trans k1)
      try dsimp only at k1'
      clear k1; have k1 := k1'; clear k1'
      have b2 : Below w.heap.size w D2 := by rw [e2]; exact b1.alloc b1.size _
      have s2 : D2.heap.size = D1.heap.size + 1 := by rw [e2, siz_alloc]
      clear e2
      refine hK.out _ _ ⟨by omega, trivial⟩ (fun hHeld => ?_)
      clear hK K
      try simp only [PT]
      refine wpAnyH_ready (rs := [8]) (by kernel_rfl) (by simp) ?_
      refine ready_at rfl (fun K hK => ?_) AllReadyH.nil
      go_simp
      refine gen_app (K := K) (fun D3 e3 => ?_)
      have k3 := (congrArg (fun v : World => v.heap[D2.heap.size]?) e3).trans (blk_new _ _ _ rfl)
      try dsimp only at k3
      have k1' := (congrArg (fun v : World => v.heap[Vd.heap.size]?) e3).trans ((blk_old _ _ _ (by omega)).trans k1)
      try dsimp only at k1'
      clear k1; have k1 := k1'; clear k1'
      have k2' := (congrArg (fun v : World => v.heap[D1.heap.size]?) e3).trans ((blk_old _ _ _ (by omega)).trans k2)
      try dsimp only at k2'
      clear k2; have k2 := k2'; clear k2'
      have b3 : Below w.heap.size w D3 := by rw [e3]; exact b2.alloc b2.size _
      have s3 : D3.heap.size = D2.heap.size + 1 := by rw [e3, siz_alloc]
      clear e3
      refine hK.out _ _ ⟨by omega, trivial⟩ (fun hHeld => ?_)
      clear hK K
      try simp only [PT]
      clear m2 m5 m8
      refine ty (i := 9) (v := ?_) rfl hHeld ?_ ?_
      rotate_left
      focus (intro w hSw; go_simp; (try simp only [IntWalk.i64_left]); try (with_reducible rfl))
      try simp only [PT]
      refine wpAnyH_ready (rs := [10]) (by kernel_rfl) (by simp) ?_
      refine ready_at rfl (fun K hK => ?_) AllReadyH.nil
      go_simp
      refine gen_app (K := K) (fun D4 e4 => ?_)
      have q4 := (congrArg (fun v : World => v.heap[D3.heap.size]?) e4).trans (blk_new _ _ _ rfl)
      try dsimp only at q4
      have q1 := (congrArg (fun v : World => v.heap[Vd.heap.size]?) e4).trans ((blk_old _ _ _ (by omega)).trans k1)
      try dsimp only at q1
      have q2 := (congrArg (fun v : World => v.heap[D1.heap.size]?) e4).trans ((blk_old _ _ _ (by omega)).trans k2)
      try dsimp only at q2
      have q3 := (congrArg (fun v : World => v.heap[D2.heap.size]?) e4).trans ((blk_old _ _ _ (by omega)).trans k3)
      try dsimp only at q3
      have b4 : Below w.heap.size w D4 := by rw [e4]; exact b3.alloc b3.size _
      have s4 : D3.heap.size ≤ D4.heap.size := by rw [e4, siz_alloc]; omega
      clear e4 k1 k2 k3
      refine hK.out _ _ ⟨by omega, trivial⟩ (fun hHeld => ?_)
      clear hK K
      try simp only [PT]
      refine wpAnyH_ready (rs := [11]) (by kernel_rfl) (by simp) ?_
      refine ready_at rfl (fun K hK => ?_) AllReadyH.nil
      go_simp
      refine hK.out _ _ hHeld (fun hHeld => ?_)
      clear hK K
      try simp only [PT]
      refine wpAnyH_done (by kernel_rfl) ?_ _
      refine NoPanic.normal ?_
      go_wp2_with fail
      go_ret
      simp only [s1] at q2
      simp only [s2, s1] at q3
      simp only [s3, s2, s1] at q4
      obtain ⟨O, h3, h4⟩ := ap_new (w := w) H2.out q4 q1 q2 q3 (by omega) (by omega) (by omega) (by omega)
      exact ⟨_, O, rfl, h3, h4, b4⟩
    refine ready_at rfl (fun K hK => ?_) AllReadyH.nil
    go_simp
    refine gen_app (K := K) (fun D2 e2 => ?_)
    have k2 := (congrArg (fun v : World => v.heap[D1.heap.size]?) e2).trans (blk_new _ _ _ rfl)
    try dsimp only at k2
    have k1' := (congrArg (fun v : World => v.heap[Vd.heap.size]?) e2).trans ((blk_old _ _ _ (by omega)).trans k1)
    try dsimp only at k1'
    clear k1; have k1 := k1'; clear k1'
    have b2 : Below w.heap.size w D2 := by rw [e2]; exact b1.alloc b1.size _
    have s2 : D2.heap.size = D1.heap.size + 1 := by rw [e2, siz_alloc]
    clear e2
    refine hK.out _ _ ⟨by omega, trivial⟩ (fun hHeld => ?_)
    clear hK K
    try simp only [PT]
    refine wpAnyH_ready (rs := [5]) (by kernel_rfl) (by simp) ?_
    refine ready_at rfl (fun K hK => ?_) AllReadyH.nil
    go_simp
    refine gen_app (K := K) (fun D3 e3 => ?_)
    have k3 := (congrArg (fun v : World => v.heap[D2.heap.size]?) e3).trans (blk_new _ _ _ rfl)
    try dsimp only at k3
    have k1' := (congrArg (fun v : World => v.heap[Vd.heap.size]?) e3).trans ((blk_old _ _ _ (by omega)).trans k1)
    try dsimp only at k1'
    clear k1; have k1 := k1'; clear k1'
    have k2' := (congrArg (fun v : World => v.heap[D1.heap.size]?) e3).trans ((blk_old _ _ _ (by omega)).trans k2)
    try dsimp only at k2'
    clear k2; have k2 := k2'; clear k2'
    have b3 : Below w.heap.size w D3 := by rw [e3]; exact b2.alloc b2.size _
    have s3 : D3.heap.size = D2.heap.size + 1 := by rw [e3, siz_alloc]
    clear e3
    refine hK.out _ _ ⟨by omega, trivial⟩ (fun hHeld => ?_)
    clear hK K
    try simp only [PT]
    clear m2 m5 m8
    refine ty (i := 9) (v := ?_) rfl hHeld ?_ ?_
    rotate_left
    focus (intro w hSw; go_simp; (try simp only [IntWalk.i64_left]); try (with_reducible rfl))
    try simp only [PT]
    refine wpAnyH_ready (rs := [10]) (by kernel_rfl) (by simp) ?_
    refine ready_at rfl (fun K hK => ?_) AllReadyH.nil
    go_simp
    refine gen_app (K := K) (fun D4 e4 => ?_)
    have q4 := (congrArg (fun v : World => v.heap[D3.heap.size]?) e4).trans (blk_new _ _ _ rfl)
    try dsimp only at q4
    have q1 := (congrArg (fun v : World => v.heap[Vd.heap.size]?) e4).trans ((blk_old _ _ _ (by omega)).trans k1)
    try dsimp only at q1
    have q2 := (congrArg (fun v : World => v.heap[D1.heap.size]?) e4).trans ((blk_old _ _ _ (by omega)).trans k2)
    try dsimp only at q2
    have q3 := (congrArg (fun v : World => v.heap[D2.heap.size]?) e4).trans ((blk_old _ _ _ (by omega)).trans k3)
    try dsimp only at q3
    have b4 : Below w.heap.size w D4 := by rw [e4]; exact b3.alloc b3.size _
    have s4 : D3.heap.size ≤ D4.heap.size := by rw [e4, siz_alloc]; omega
    clear e4 k1 k2 k3
    refine hK.out _ _ ⟨by omega, trivial⟩ (fun hHeld => ?_)
    clear hK K
    try simp only [PT]
    refine wpAnyH_ready (rs := [11]) (by kernel_rfl) (by simp) ?_
    refine ready_at rfl (fun K hK => ?_) AllReadyH.nil
    go_simp
    refine hK.out _ _ hHeld (fun hHeld => ?_)
    clear hK K
    try simp only [PT]
    refine wpAnyH_done (by kernel_rfl) ?_ _
    refine NoPanic.normal ?_
    go_wp2_with fail
    go_ret
    simp only [s1] at q2
    simp only [s2, s1] at q3
    simp only [s3, s2, s1] at q4
    obtain ⟨O, h3, h4⟩ := ap_new (w := w) H2.out q4 q1 q3 q2 (by omega) (by omega) (by omega) (by omega)
    exact ⟨_, O, rfl, h3, h4, b4⟩
  refine ready_at rfl (fun K hK => ?_) ?_
  · go_simp
    refine gen_app (K := K) (fun D1 e1 => ?_)
    have k1 := (congrArg (fun v : World => v.heap[Vd.heap.size]?) e1).trans (blk_new _ _ _ rfl)
    try dsimp only at k1
    have b1 : Below w.heap.size w D1 := by rw [e1]; exact hB1.alloc hB1.size _
    have s1 : D1.heap.size = Vd.heap.size + 1 := by rw [e1, siz_alloc]
    clear e1
    refine hK.out _ _ ⟨by omega, trivial⟩ (fun hHeld => ?_)
    clear hK K
    try simp only [PT]
    refine wpAnyH_ready (rs := [2, 8]) (by kernel_rfl) (by simp) ?_
    refine ready_at rfl (fun K hK => ?_) ?_
    · go_simp
      refine gen_app (K := K) (fun D2 e2 => ?_)
      have k2 := (congrArg (fun v : World => v.heap[D1.heap.size]?) e2).trans (blk_new _ _ _ rfl)
      try dsimp only at k2
      have k1' := (congrArg (fun v : World => v.heap[Vd.heap.size]?) e2).trans ((blk_old _ _ _ (by omega)).trans k1)
      try dsimp only at k1'
      clear k1; have k1 := k1'; clear k1'
      have b2 : Below w.heap.size w D2 := by rw [e2]; exact b1.alloc b1.size _
      have s2 : D2.heap.size = D1.heap.size + 1 := by rw [e2, siz_alloc]
      clear e2
      refine hK.out _ _ ⟨by omega, trivial⟩ (fun hHeld => ?_)
      clear hK K
      try simp only [PT]
      refine wpAnyH_ready (rs := [8]) (by kernel_rfl) (by simp) ?_
      refine ready_at rfl (fun K hK => ?_) AllReadyH.nil
      go_simp
      refine gen_app (K := K) (fun D3 e3 => ?_)
      have k3 := (congrArg (fun v : World => v.heap[D2.heap.size]?) e3).trans (blk_new _ _ _ rfl)
      try dsimp only at k3
      have k1' := (congrArg (fun v : World => v.heap[Vd.heap.size]?) e3).trans ((blk_old _ _ _ (by omega)).trans k1)
      try dsimp only at k1'
      clear k1; have k1 := k1'; clear k1'
      have k2' := (congrArg (fun v : World => v.heap[D1.heap.size]?) e3).trans ((blk_old _ _ _ (by omega)).trans k2)
      try dsimp only at k2'
      clear k2; have k2 := k2'; clear k2'
      have b3 : Below w.heap.size w D3 := by rw [e3]; exact b2.alloc b2.size _
      have s3 : D3.heap.size = D2.heap.size + 1 := by rw [e3, siz_alloc]
      clear e3
      refine hK.out _ _ ⟨by omega, trivial⟩ (fun hHeld => ?_)
      clear hK K
      try simp only [PT]
      clear m2 m5 m8
      refine ty (i := 9) (v := ?_) rfl hHeld ?_ ?_
      rotate_left
      focus (intro w hSw; go_simp; (try simp only [IntWalk.i64_left]); try (with_reducible rfl))
      try simp only [PT]
      refine wpAnyH_ready (rs := [10]) (by kernel_rfl) (by simp) ?_
      refine ready_at rfl (fun K hK => ?_) AllReadyH.nil
      go_simp
      refine gen_app (K := K) (fun D4 e4 => ?_)
      have q4 := (congrArg (fun v : World => v.heap[D3.heap.size]?) e4).trans (blk_new _ _ _ rfl)
      try dsimp only at q4
      have q1 := (congrArg (fun v : World => v.heap[Vd.heap.size]?) e4).trans ((blk_old _ _ _ (by omega)).trans k1)
      try dsimp only at q1
      have q2 := (congrArg (fun v : World => v.heap[D1.heap.size]?) e4).trans ((blk_old _ _ _ (by omega)).trans k2)
      try dsimp only at q2
      have q3 := (congrArg (fun v : World => v.heap[D2.heap.size]?) e4).trans ((blk_old _ _ _ (by omega)).trans k3)
      try dsimp only at q3
      have b4 : Below w.heap.size w D4 := by rw [e4]; exact b3.alloc b3.size _
      have s4 : D3.heap.size ≤ D4.heap.size := by rw [e4, siz_alloc]; omega
      clear e4 k1 k2 k3
      refine hK.out _ _ ⟨by omega, trivial⟩ (fun hHeld => ?_)
      clear hK K
      try simp only [PT]
      refine wpAnyH_ready (rs := [11]) (by kernel_rfl) (by simp) ?_
      refine ready_at rfl (fun K hK => ?_) AllReadyH.nil
      go_simp
      refine hK.out _ _ hHeld (fun hHeld => ?_)
      clear hK K
      try simp only [PT]
      refine wpAnyH_done (by kernel_rfl) ?_ _
      refine NoPanic.normal ?_
      go_wp2_with fail
      go_ret
      simp only [s1] at q2
      simp only [s2, s1] at q3
      simp only [s3, s2, s1] at q4
      obtain ⟨O, h3, h4⟩ := ap_new (w := w) H2.out q4 q2 q1 q3 (by omega) (by omega) (by omega) (by omega)
      exact ⟨_, O, rfl, h3, h4, b4⟩
    refine ready_at rfl (fun K hK => ?_) AllReadyH.nil
    go_simp
    refine gen_app (K := K) (fun D2 e2 => ?_)
    have k2 := (congrArg (fun v : World => v.heap[D1.heap.size]?) e2).trans (blk_new _ _ _ rfl)
    try dsimp only at k2
    have k1' := (congrArg (fun v : World => v.heap[Vd.heap.size]?) e2).trans ((blk_old _ _ _ (by omega)).trans k1)
    try dsimp only at k1'
    clear k1; have k1 := k1'; clear k1'
    have b2 : Below w.heap.size w D2 := by rw [e2]; exact b1.alloc b1.size _
    have s2 : D2.heap.size = D1.heap.size + 1 := by rw [e2, siz_alloc]
    clear e2
    refine hK.out _ _ ⟨by omega, trivial⟩ (fun hHeld => ?_)
    clear hK K
    try simp only [PT]
    refine wpAnyH_ready (rs := [2]) (by kernel_rfl) (by simp) ?_
    refine ready_at rfl (fun K hK => ?_) AllReadyH.nil
    go_simp
    refine gen_app (K := K) (fun D3 e3 => ?_)
    have k3 := (congrArg (fun v : World => v.heap[D2.heap.size]?) e3).trans (blk_new _ _ _ rfl)
    try dsimp only at k3
    have k1' := (congrArg (fun v : World => v.heap[Vd.heap.size]?) e3).trans ((blk_old _ _ _ (by omega)).trans k1)
    try dsimp only at k1'
    clear k1; have k1 := k1'; clear k1'
    have k2' := (congrArg (fun v : World => v.heap[D1.heap.size]?) e3).trans ((blk_old _ _ _ (by omega)).trans k2)
    try dsimp only at k2'
    clear k2; have k2 := k2'; clear k2'
    have b3 : Below w.heap.size w D3 := by rw [e3]; exact b2.alloc b2.size _
    have s3 : D3.heap.size = D2.heap.size + 1 := by rw [e3, siz_alloc]
    clear e3
    refine hK.out _ _ ⟨by omega, trivial⟩ (fun hHeld => ?_)
    clear hK K
    try simp only [PT]
    clear m2 m5 m8
    refine ty (i := 9) (v := ?_) rfl hHeld ?_ ?_
    rotate_left
    focus (intro w hSw; go_simp; (try simp only [IntWalk.i64_left]); try (with_reducible rfl))
    try simp only [PT]
    refine wpAnyH_ready (rs := [10]) (by kernel_rfl) (by simp) ?_
    refine ready_at rfl (fun K hK => ?_) AllReadyH.nil
    go_simp
    refine gen_app (K := K) (fun D4 e4 => ?_)
    have q4 := (congrArg (fun v : World => v.heap[D3.heap.size]?) e4).trans (blk_new _ _ _ rfl)
    try dsimp only at q4
    have q1 := (congrArg (fun v : World => v.heap[Vd.heap.size]?) e4).trans ((blk_old _ _ _ (by omega)).trans k1)
    try dsimp only at q1
    have q2 := (congrArg (fun v : World => v.heap[D1.heap.size]?) e4).trans ((blk_old _ _ _ (by omega)).trans k2)
    try dsimp only at q2
    have q3 := (congrArg (fun v : World => v.heap[D2.heap.size]?) e4).trans ((blk_old _ _ _ (by omega)).trans k3)
    try dsimp only at q3
    have b4 : Below w.heap.size w D4 := by rw [e4]; exact b3.alloc b3.size _
    have s4 : D3.heap.size ≤ D4.heap.size := by rw [e4, siz_alloc]; omega
    clear e4 k1 k2 k3
    refine hK.out _ _ ⟨by omega, trivial⟩ (fun hHeld => ?_)
    clear hK K
    try simp only [PT]
    refine wpAnyH_ready (rs := [11]) (by kernel_rfl) (by simp) ?_
    refine ready_at rfl (fun K hK => ?_) AllReadyH.nil
    go_simp
    refine hK.out _ _ hHeld (fun hHeld => ?_)
    clear hK K
    try simp only [PT]
    refine wpAnyH_done (by kernel_rfl) ?_ _
    refine NoPanic.normal ?_
    go_wp2_with fail
    go_ret
    simp only [s1] at q2
    simp only [s2, s1] at q3
    simp only [s3, s2, s1] at q4
    obtain ⟨O, h3, h4⟩ := ap_new (w := w) H2.out q4 q3 q1 q2 (by omega) (by omega) (by omega) (by omega)
    exact ⟨_, O, rfl, h3, h4, b4⟩
  refine ready_at rfl (fun K hK => ?_) AllReadyH.nil
  go_simp
  refine gen_app (K := K) (fun D1 e1 => ?_)
  have k1 := (congrArg (fun v : World => v.heap[Vd.heap.size]?) e1).trans (blk_new _ _ _ rfl)
  try dsimp only at k1
  have b1 : Below w.heap.size w D1 := by rw [e1]; exact hB1.alloc hB1.size _
  have s1 : D1.heap.size = Vd.heap.size + 1 := by rw [e1, siz_alloc]
  clear e1
  refine hK.out _ _ ⟨by omega, trivial⟩ (fun hHeld => ?_)
  clear hK K
  try simp only [PT]
  refine wpAnyH_ready (rs := [2, 5]) (by kernel_rfl) (by simp) ?_
  refine ready_at rfl (fun K hK => ?_) ?_
  · go_simp
    refine gen_app (K := K) (fun D2 e2 => ?_)
    have k2 := (congrArg (fun v : World => v.heap[D1.heap.size]?) e2).trans (blk_new _ _ _ rfl)
    try dsimp only at k2
    have k1' := (congrArg (fun v : World => v.heap[Vd.heap.size]?) e2).trans ((blk_old _ _ _ (by omega)).trans k1)
    try dsimp only at k1'
    clear k1; have k1 := k1'; clear k1'
    have b2 : Below w.heap.size w D2 := by rw [e2]; exact b1.alloc b1.size _
    have s2 : D2.heap.size = D1.heap.size + 1 := by rw [e2, siz_alloc]
    clear e2
    refine hK.out _ _ ⟨by omega, trivial⟩ (fun hHeld => ?_)
    clear hK K
    try simp only [PT]
    refine wpAnyH_ready (rs := [5]) (by kernel_rfl) (by simp) ?_
    refine ready_at rfl (fun K hK => ?_) AllReadyH.nil
    go_simp
    refine gen_app (K := K) (fun D3 e3 => ?_)
    have k3 := (congrArg (fun v : World => v.heap[D2.heap.size]?) e3).trans (blk_new _ _ _ rfl)
    try dsimp only at k3
    have k1' := (congrArg (fun v : World => v.heap[Vd.heap.size]?) e3).trans ((blk_old _ _ _ (by omega)).trans k1)
    try dsimp only at k1'
    clear k1; have k1 := k1'; clear k1'
    have k2' := (congrArg (fun v : World => v.heap[D1.heap.size]?) e3).trans ((blk_old _ _ _ (by omega)).trans k2)
    try dsimp only at k2'
    clear k2; have k2 := k2'; clear k2'
    have b3 : Below w.heap.size w D3 := by rw [e3]; exact b2.alloc b2.size _
    have s3 : D3.heap.size = D2.heap.size + 1 := by rw [e3, siz_alloc]
    clear e3
    refine hK.out _ _ ⟨by omega, trivial⟩ (fun hHeld => ?_)
    clear hK K
    try simp only [PT]
    clear m2 m5 m8
    refine ty (i := 9) (v := ?_) rfl hHeld ?_ ?_
    rotate_left
    focus (intro w hSw; go_simp; (try simp only [IntWalk.i64_left]); try (with_reducible rfl))
    try simp only [PT]
    refine wpAnyH_ready (rs := [10]) (by kernel_rfl) (by simp) ?_
    refine ready_at rfl (fun K hK => ?_) AllReadyH.nil
    go_simp
    refine gen_app (K := K) (fun D4 e4 => ?_)
    have q4 := (congrArg (fun v : World => v.heap[D3.heap.size]?) e4).trans (blk_new _ _ _ rfl)
    try dsimp only at q4
    have q1 := (congrArg (fun v : World => v.heap[Vd.heap.size]?) e4).trans ((blk_old _ _ _ (by omega)).trans k1)
    try dsimp only at q1
    have q2 := (congrArg (fun v : World => v.heap[D1.heap.size]?) e4).trans ((blk_old _ _ _ (by omega)).trans k2)
    try dsimp only at q2
    have q3 := (congrArg (fun v : World => v.heap[D2.heap.size]?) e4).trans ((blk_old _ _ _ (by omega)).trans k3)
    try dsimp only at q3
    have b4 : Below w.heap.size w D4 := by rw [e4]; exact b3.alloc b3.size _
    have s4 : D3.heap.size ≤ D4.heap.size := by rw [e4, siz_alloc]; omega
    clear e4 k1 k2 k3
    refine hK.out _ _ ⟨by omega, trivial⟩ (fun hHeld => ?_)
    clear hK K
    try simp only [PT]
    refine wpAnyH_ready (rs := [11]) (by kernel_rfl) (by simp) ?_
    refine ready_at rfl (fun K hK => ?_) AllReadyH.nil
    go_simp
    refine hK.out _ _ hHeld (fun hHeld => ?_)
    clear hK K
    try simp only [PT]
    refine wpAnyH_done (by kernel_rfl) ?_ _
    refine NoPanic.normal ?_
    go_wp2_with fail
    go_ret
    simp only [s1] at q2
    simp only [s2, s1] at q3
    simp only [s3, s2, s1] at q4
    obtain ⟨O, h3, h4⟩ := ap_new (w := w) H2.out q4 q2 q3 q1 (by omega) (by omega) (by omega) (by omega)
    exact ⟨_, O, rfl, h3, h4, b4⟩
  refine ready_at rfl (fun K hK => ?_) AllReadyH.nil
  go_simp
  refine gen_app (K := K) (fun D2 e2 => ?_)
  have k2 := (congrArg (fun v : World => v.heap[D1.heap.size]?) e2).trans (blk_new _ _ _ rfl)
  try dsimp only at k2
  have k1' := (congrArg (fun v : World => v.heap[Vd.heap.size]?) e2).trans ((blk_old _ _ _ (by omega)).trans k1)
  try dsimp only at k1'
  clear k1; have k1 := k1'; clear k1'
  have b2 : Below w.heap.size w D2 := by rw [e2]; exact b1.alloc b1.size _
  have s2 : D2.heap.size = D1.heap.size + 1 := by rw [e2, siz_alloc]
  clear e2
  refine hK.out _ _ ⟨by omega, trivial⟩ (fun hHeld => ?_)
  clear hK K
  try simp only [PT]
  refine wpAnyH_ready (rs := [2]) (by kernel_rfl) (by simp) ?_
  refine ready_at rfl (fun K hK => ?_) AllReadyH.nil
  go_simp
  refine gen_app (K := K) (fun D3 e3 => ?_)
  have k3 := (congrArg (fun v : World => v.heap[D2.heap.size]?) e3).trans (blk_new _ _ _ rfl)
  try dsimp only at k3
  have k1' := (congrArg (fun v : World => v.heap[Vd.heap.size]?) e3).trans ((blk_old _ _ _ (by omega)).trans k1)
  try dsimp only at k1'
  clear k1; have k1 := k1'; clear k1'
  have k2' := (congrArg (fun v : World => v.heap[D1.heap.size]?) e3).trans ((blk_old _ _ _ (by omega)).trans k2)
  try dsimp only at k2'
  clear k2; have k2 := k2'; clear k2'
  have b3 : Below w.heap.size w D3 := by rw [e3]; exact b2.alloc b2.size _
  have s3 : D3.heap.size = D2.heap.size + 1 := by rw [e3, siz_alloc]
  clear e3
  refine hK.out _ _ ⟨by omega, trivial⟩ (fun hHeld => ?_)
  clear hK K
  try simp only [PT]
  clear m2 m5 m8
  refine ty (i := 9) (v := ?_) rfl hHeld ?_ ?_
  rotate_left
  focus (intro w hSw; go_simp; (try simp only [IntWalk.i64_left]); try (with_reducible rfl))
  try simp only [PT]
  refine wpAnyH_ready (rs := [10]) (by kernel_rfl) (by simp) ?_
  refine ready_at rfl (fun K hK => ?_) AllReadyH.nil
  go_simp
  refine gen_app (K := K) (fun D4 e4 => ?_)
  have q4 := (congrArg (fun v : World => v.heap[D3.heap.size]?) e4).trans (blk_new _ _ _ rfl)
  try dsimp only at q4
  have q1 := (congrArg (fun v : World => v.heap[Vd.heap.size]?) e4).trans ((blk_old _ _ _ (by omega)).trans k1)
  try dsimp only at q1
  have q2 := (congrArg (fun v : World => v.heap[D1.heap.size]?) e4).trans ((blk_old _ _ _ (by omega)).trans k2)
  try dsimp only at q2
  have q3 := (congrArg (fun v : World => v.heap[D2.heap.size]?) e4).trans ((blk_old _ _ _ (by omega)).trans k3)
  try dsimp only at q3
  have b4 : Below w.heap.size w D4 := by rw [e4]; exact b3.alloc b3.size _
  have s4 : D3.heap.size ≤ D4.heap.size := by rw [e4, siz_alloc]; omega
  clear e4 k1 k2 k3
  refine hK.out _ _ ⟨by omega, trivial⟩ (fun hHeld => ?_)
  clear hK K
  try simp only [PT]
  refine wpAnyH_ready (rs := [11]) (by kernel_rfl) (by simp) ?_
  refine ready_at rfl (fun K hK => ?_) AllReadyH.nil
  go_simp
  refine hK.out _ _ hHeld (fun hHeld => ?_)
  clear hK K
  try simp only [PT]
  refine wpAnyH_done (by kernel_rfl) ?_ _
  refine NoPanic.normal ?_
  go_wp2_with fail
  go_ret
  simp only [s1] at q2
  simp only [s2, s1] at q3
  simp only [s3, s2, s1] at q4
  obtain ⟨O, h3, h4⟩ := ap_new (w := w) H2.out q4 q3 q2 q1 (by omega) (by omega) (by omega) (by omega)
  exact ⟨_, O, rfl, h3, h4, b4⟩
end Go.Proofs.YtpdpcgmkpgfblaaGreat
/- The order of rows: a strict total one; the one sorted list of all rows; no program here. -/
namespace Go.Proofs.YtpdpcgmkpgfblaaGreat
set_option linter.unusedSimpArgs false
set_option linter.unusedVariables false
set_option linter.unnecessarySimpa false
open Go.RowKit Go.Sort
theorem lessL_irr : ∀ s : List UInt8, lessL false s s = false
  | [] => rfl
  | x :: s => by unfold lessL; rw [if_pos rfl]; exact lessL_irr s
theorem lessL_asymm (d d' : Bool) (hd : d = true → d' = false) : ∀ s t : List UInt8, lessL d s t = true → lessL d' t s = false
  | [], [], h => by unfold lessL at h ⊢; exact hd h
  | [], _ :: _, _ => rfl
  | _ :: _, [], h => by unfold lessL at h; cases h
  | x :: s, y :: t, h => by
    unfold lessL at h ⊢
    by_cases e : x = y
    · rw [if_pos e] at h; rw [if_pos e.symm]; exact lessL_asymm d d' hd s t h
    · rw [if_neg e] at h; rw [if_neg (fun q => e q.symm)]
      simp only [decide_eq_true_eq, decide_eq_false_iff_not] at h ⊢; omega
theorem lessL_trans (d1 d2 d3 : Bool) (hd : d1 = true → d2 = true → d3 = true) : ∀ s t u : List UInt8, lessL d1 s t = true → lessL d2 t u = true → lessL d3 s u = true
  | [], [], [], h1, h2 => by unfold lessL at h1 h2 ⊢; exact hd h1 h2
  | [], _, _ :: _, _, _ => rfl
  | [], _ :: _, [], _, h2 => by unfold lessL at h2; cases h2
  | _ :: _, [], _, h1, _ => by unfold lessL at h1; cases h1
  | _ :: _, _ :: _, [], _, h2 => by unfold lessL at h2; cases h2
  | x :: s, y :: t, z :: u, h1, h2 => by
    unfold lessL at h1 h2 ⊢
    by_cases e1 : x = y
    · rw [if_pos e1] at h1
      by_cases e2 : y = z
      · rw [if_pos e2] at h2; rw [if_pos (e1.trans e2)]; exact lessL_trans d1 d2 d3 hd s t u h1 h2
      · rw [if_neg e2] at h2; rw [if_neg (by rw [e1]; exact e2), e1]; exact h2
    · rw [if_neg e1] at h1
      by_cases e2 : y = z
      · rw [if_neg (by rw [← e2]; exact e1), ← e2]; exact h1
      · rw [if_neg e2] at h2
        simp only [decide_eq_true_eq] at h1 h2
        have e3 : x ≠ z := fun q => by rw [q] at h1; omega
        rw [if_neg e3]; simp only [decide_eq_true_eq]; omega
theorem lessL_total (d d' : Bool) : ∀ s t : List UInt8, lessL d s t = false → lessL d' t s = false → s = t ∧ d = false ∧ d' = false
  | [], [], h1, h2 => by unfold lessL at h1 h2; exact ⟨rfl, h1, h2⟩
  | [], _ :: _, h1, _ => by unfold lessL at h1; cases h1
  | _ :: _, [], _, h2 => by unfold lessL at h2; cases h2
  | x :: s, y :: t, h1, h2 => by
    unfold lessL at h1 h2
    by_cases e : x = y
    · rw [if_pos e] at h1; rw [if_pos e.symm] at h2
      obtain ⟨a, b⟩ := lessL_total d d' s t h1 h2
      exact ⟨by rw [e, a], b⟩
    · rw [if_neg e] at h1; rw [if_neg (fun q => e q.symm)] at h2
      simp only [decide_eq_false_iff_not] at h1 h2
      exact absurd (UInt8.toNat_inj.1 (by omega)) e
/-- A row of the texts. -/
def RowIn (ts : List (List UInt8)) (r : Nat × Nat) : Prop := ∃ t, ts[r.1]? = some t ∧ r.2 ≤ t.length
theorem rl_irr (ts : List (List UInt8)) (x : Nat × Nat) : refLess ts x x = false := by
  unfold refLess
  rw [show decide (x.1 < x.1) = false by simp]; exact lessL_irr _
theorem rl_asymm {ts : List (List UInt8)} {x y : Nat × Nat} (h : refLess ts x y = true) : refLess ts y x = false :=
  lessL_asymm _ _ (fun h => by simp only [decide_eq_true_eq, decide_eq_false_iff_not] at h ⊢; omega) _ _ h
theorem rl_trans {ts : List (List UInt8)} {x y z : Nat × Nat} (h1 : refLess ts x y = true) (h2 : refLess ts y z = true) : refLess ts x z = true :=
  lessL_trans _ _ _ (fun h h' => by simp only [decide_eq_true_eq] at h h' ⊢; omega) _ _ _ h1 h2
theorem rl_total {ts : List (List UInt8)} {x y : Nat × Nat} (hx : RowIn ts x) (hy : RowIn ts y) (h1 : refLess ts x y = false) (h2 : refLess ts y x = false) : x = y := by
  obtain ⟨t1, ht1, ha1⟩ := hx
  obtain ⟨t2, ht2, ha2⟩ := hy
  unfold refLess at h1 h2
  obtain ⟨hs, hd1, hd2⟩ := lessL_total _ _ _ _ h1 h2
  simp only [decide_eq_false_iff_not] at hd1 hd2
  have e1 : x.1 = y.1 := by omega
  rw [getD_at ht1, getD_at ht2] at hs
  rw [e1, ht2] at ht1
  obtain rfl := Option.some.inj ht1
  have := congrArg List.length hs
  rw [List.length_drop, List.length_drop] at this
  exact Prod.ext e1 (by omega)
theorem take_while {ts : List (List UInt8)} (r : Nat × Nat) : ∀ out : List (Nat × Nat), ∀ x, x ∈ out.take (refAt ts out r) → refLess ts x r = true
  | [], x, h => by simp at h
  | y :: out, x, h => by
    unfold refAt at h
    rw [List.takeWhile_cons] at h
    by_cases c : refLess ts y r = true
    · rw [if_pos c, List.length_cons, List.take_succ_cons] at h
      rcases List.mem_cons.1 h with rfl | h
      · exact c
      · exact take_while r out x h
    · rw [if_neg c] at h; simp at h
theorem drop_while {ts : List (List UInt8)} (r : Nat × Nat) : ∀ out : List (Nat × Nat), (∀ y, (out.drop (refAt ts out r)).head? = some y → refLess ts y r = false)
  | [], y, h => by simp at h
  | z :: out, y, h => by
    unfold refAt at h
    rw [List.takeWhile_cons] at h
    by_cases c : refLess ts z r = true
    · rw [if_pos c, List.length_cons, List.drop_succ_cons] at h
      exact drop_while r out y h
    · rw [if_neg c] at h; simp at h; subst h; simpa using c
theorem ins_sorted {ts : List (List UInt8)} {out : List (Nat × Nat)} {r : Nat × Nat} (hr : RowIn ts r) (ho : ∀ x, x ∈ out → RowIn ts x) (hn : r ∉ out) (h : out.Pairwise fun x y => refLess ts x y = true) : (refIns ts out r).Pairwise fun x y => refLess ts x y = true := by
  unfold refIns
  have ha := take_while (ts := ts) r out
  have hd := drop_while (ts := ts) r out
  have hsplit : out.take (refAt ts out r) ++ out.drop (refAt ts out r) = out := List.take_append_drop _ _
  have hmem : ∀ x, x ∈ out.drop (refAt ts out r) → x ∈ out := fun x hx => List.mem_of_mem_drop hx
  rw [← hsplit] at h
  obtain ⟨h1, h2, h3⟩ := List.pairwise_append.1 h
  generalize out.take (refAt ts out r) = A at ha h1 h3 hsplit ⊢
  generalize out.drop (refAt ts out r) = B at hd h2 h3 hmem hsplit ⊢
  have hb : ∀ y, y ∈ B → refLess ts r y = true := by
    cases B with
    | nil => intro y hy; simp at hy
    | cons z B =>
      have hz : refLess ts r z = true := by
        have h0 := hd z rfl
        cases hc : refLess ts r z with
        | true => rfl
        | false => exact absurd (rl_total hr (ho z (hmem z (by simp))) hc h0) (fun e => hn (e ▸ hmem z (by simp)))
      intro y hy
      rcases List.mem_cons.1 hy with rfl | hy
      · exact hz
      · exact rl_trans hz ((List.pairwise_cons.1 h2).1 y hy)
  refine List.pairwise_append.2 ⟨h1, List.pairwise_cons.2 ⟨hb, h2⟩, fun x hx y hy => ?_⟩
  rcases List.mem_cons.1 hy with rfl | hy
  · exact ha x hx
  · exact h3 x hx y hy
theorem fold_sorted {ts : List (List UInt8)} : ∀ (l out : List (Nat × Nat)), (∀ x, x ∈ l → RowIn ts x) → (∀ x, x ∈ out → RowIn ts x) → (∀ x, x ∈ l → x ∉ out) → l.Nodup → (out.Pairwise fun x y => refLess ts x y = true) → ((l.foldl (refIns ts) out).Pairwise fun x y => refLess ts x y = true)
  | [], out, _, _, _, _, h => h
  | r :: l, out, hl, ho, hn, hd, h => by
    rw [List.foldl_cons]
    obtain ⟨hd1, hd2⟩ := List.nodup_cons.1 hd
    refine fold_sorted l _ (fun x hx => hl x (by simp [hx])) (fun x hx => ?_) (fun x hx hm => ?_) hd2 (ins_sorted (hl r (by simp)) ho (hn r (by simp)) h)
    · rcases (refIns_mem ts out r x).1 hx with rfl | hx
      · exact hl _ (by simp)
      · exact ho x hx
    · rcases (refIns_mem ts out r x).1 hm with rfl | hm
      · exact hd1 hx
      · exact hn x (by simp [hx]) hm
theorem ins_perm (ts : List (List UInt8)) (out : List (Nat × Nat)) (r : Nat × Nat) : (refIns ts out r).Perm (r :: out) := by
  unfold refIns
  refine List.perm_middle.trans ?_
  rw [List.take_append_drop]
theorem fold_perm (ts : List (List UInt8)) : ∀ (l out : List (Nat × Nat)), (l.foldl (refIns ts) out).Perm (l ++ out)
  | [], out => List.Perm.refl _
  | r :: l, out => by
    rw [List.foldl_cons]
    refine (fold_perm ts l _).trans ?_
    refine (List.Perm.append_left l (ins_perm ts out r)).trans ?_
    exact List.perm_middle
theorem upto_nodup (ts : List (List UInt8)) : ∀ d a, (upto ts d a).Nodup
  | 0, 0 => List.nodup_nil
  | d + 1, 0 => by
    rw [← upto_next]
    have h0 := upto_nodup ts d 0
    generalize (ts.getD d []).length + 1 = n
    induction n with
    | zero => exact h0
    | succ n ih =>
      rw [upto_snoc]
      refine List.nodup_append.2 ⟨ih, by simp, fun x hx y hy => ?_⟩
      rw [List.mem_singleton.1 hy]
      rintro rfl
      rcases upto_mem hx with ⟨h1, -⟩ | ⟨-, h1⟩
      · exact Nat.lt_irrefl _ h1
      · exact Nat.lt_irrefl _ h1
  | d, a + 1 => by
    rw [upto_snoc]
    refine List.nodup_append.2 ⟨upto_nodup ts d a, by simp, fun x hx y hy => ?_⟩
    rw [List.mem_singleton.1 hy]
    rintro rfl
    rcases upto_mem hx with ⟨h1, -⟩ | ⟨-, h1⟩
    · exact Nat.lt_irrefl _ h1
    · exact Nat.lt_irrefl _ h1
theorem upto_in {ts : List (List UInt8)} {x : Nat × Nat} (h : x ∈ upto ts ts.length 0) : RowIn ts x := by
  rcases upto_mem h with ⟨h1, h2⟩ | ⟨-, h1⟩
  · obtain ⟨t, ht⟩ := at_some h1
    rw [getD_at ht] at h2
    exact ⟨t, ht, h2⟩
  · omega
theorem all_sorted (ts : List (List UInt8)) : (refFold ts (upto ts ts.length 0)).Pairwise fun x y => refLess ts x y = true :=
  fold_sorted _ _ (fun _ h => upto_in h) (by simp) (by simp) (upto_nodup ts _ _) List.Pairwise.nil
theorem all_perm (ts : List (List UInt8)) : (refFold ts (upto ts ts.length 0)).Perm (upto ts ts.length 0) := by
  have := fold_perm ts (upto ts ts.length 0) []
  rw [List.append_nil] at this
  exact this
theorem all_in {ts : List (List UInt8)} {x : Nat × Nat} (h : x ∈ refFold ts (upto ts ts.length 0)) : RowIn ts x := upto_in ((refFold_mem ts _ x).1 h)
def Srt (ts : List (List UInt8)) (L : List (Nat × Nat)) : Prop := L.Pairwise fun x y => refLess ts x y = true
theorem srt_unique {ts : List (List UInt8)} : ∀ {A B : List (Nat × Nat)}, Srt ts A → Srt ts B → A.Perm B → A = B
  | [], B, _, _, hp => (List.nil_perm.1 hp).symm
  | x :: A, [], _, _, hp => absurd hp.symm (by simp)
  | x :: A, y :: B, ha, hb, hp => by
    obtain ⟨a1, a2⟩ := List.pairwise_cons.1 ha
    obtain ⟨b1, b2⟩ := List.pairwise_cons.1 hb
    have e : x = y := by
      have hx : x ∈ y :: B := hp.mem_iff.1 (by simp)
      have hy : y ∈ x :: A := hp.mem_iff.2 (by simp)
      rcases List.mem_cons.1 hx with h | h
      · exact h
      · rcases List.mem_cons.1 hy with h' | h'
        · exact h'.symm
        · have h1 := b1 x h
          rw [rl_asymm (a1 y h')] at h1; cases h1
    subst e
    rw [srt_unique a2 b2 hp.cons_inv]
/-! ### the rows that there are, as a type of their own -/
abbrev RowT (ts : List (List UInt8)) := {r : Nat × Nat // RowIn ts r}
def cmpR (ts : List (List UInt8)) (x y : RowT ts) : Int := if refLess ts x.1 y.1 then -1 else 1
theorem lt_cmpR (ts : List (List UInt8)) (x y : RowT ts) : decide (cmpR ts x y < 0) = refLess ts x.1 y.1 := by
  unfold cmpR
  cases refLess ts x.1 y.1 <;> rfl
def rowsT (ts : List (List UInt8)) (l : List (Nat × Nat)) (h : ∀ x, x ∈ l → RowIn ts x) : List (RowT ts) := l.pmap Subtype.mk h
theorem rowsT_val {ts : List (List UInt8)} (l : List (Nat × Nat)) (h : ∀ x, x ∈ l → RowIn ts x) : (rowsT ts l h).map (·.1) = l := by
  unfold rowsT; rw [List.map_pmap]; simp
end Go.Proofs.YtpdpcgmkpgfblaaGreat
/- Package rows: which rows there are, which is less; how far the world goes on. -/
namespace Go.Proofs.YtpdpcgmkpgfblaaGreat
set_option linter.unusedSimpArgs false
set_option linter.unusedVariables false
set_option linter.unnecessarySimpa false
open Go.RowKit Go.Sort
attribute [local go_sem ↓] Go.wp_at_zero Go.wp_at_succ
attribute [local go_sem] str_len
/-- The world has gone on: it has drawn, and laid blocks. -/
def Gr (w w' : World) : Prop := ∃ q os, w' = grow (w.drewN q) os
theorem Gr.refl (w : World) : Gr w w := ⟨0, #[], (grow_empty _).symm⟩
theorem Gr.trans {a b c : World} (h1 : Gr a b) (h2 : Gr b c) : Gr a c := by
  obtain ⟨q, os, rfl⟩ := h1
  obtain ⟨q', os', rfl⟩ := h2
  exact ⟨q + q', os ++ os', by show grow (grow ((a.drewN q).drewN q') os) os' = _; rw [grow_grow, World.drewN_drewN]⟩
theorem Gr.alloc (w : World) (o : Obj) : Gr w (w.alloc o) := ⟨0, #[o], alloc_eq_grow w o⟩
theorem Gr.drewN (w : World) (q : Nat) : Gr w (w.drewN q) := ⟨q, #[], (grow_empty _).symm⟩
theorem Gr.below {w w' : World} (h : Gr w w') : Below w.heap.size w w' := by
  obtain ⟨q, os, rfl⟩ := h
  exact ⟨rfl, rfl, rfl, by simp [grow, World.drewN], fun k hk => by simp [grow, World.drewN, Array.getElem?_append, hk]⟩
set_option maxRecDepth 100000 in
set_option maxHeartbeats 2000000 in
theorem is_calls (v : Value) (ts : List (List UInt8)) (d a : Nat) (t : List UInt8) (ht : ts[d]? = some t) (ha : a ≤ t.length) (w : World) (h : Rk w 1 v ts.length (ts.map strOf)) :
    Calls Tryz.prog 127 #[v, .agg #[.int .i64 (d : Int), .int .i64 (a : Int)]] w fun e w' => e = .returned (.bool true) ∧ Gr w w' := by
  obtain ⟨hd, -⟩ := List.getElem?_eq_some_iff.1 ht
  obtain ⟨h1, A, cap, rfl, h2⟩ := h
  obtain ⟨g, cs, T, rfl, kg, hcs⟩ := h2 (by omega)
  have hci : cs[d]? = some (strOf t) := by rw [hcs d (by omega), List.getElem?_map, ht]; rfl
  have n1 : (d : Int) < (ts.length : Int) := by omega
  have n2 : (a : Int) ≤ (t.length : Int) := by omega
  clear h1 h2 hcs ht
  go_enter Tryz.func127, Tryz.ntmps127
  have c_kg := cells_of kg
  have f_kg := free_of kg
  have l_kg_w := lt_of kg
  go_wp2_with fail
  refine wp_gen fun V hV => ?_
  have hG : Gr w V := by rw [hV]; exact Gr.alloc w _
  have kr : V.heap[w.heap.size]? = some (.cells #[.int .i64 (d : Int), .int .i64 (a : Int)] 36 (0, 0)) := by rw [hV]; exact blk_new _ _ _ rfl
  replace kg := keep_blk hG.below kg
  clear hV c_kg f_kg
  have c_kg := cells_of kg
  have f_kg := free_of kg
  have l_kg_V := lt_of kg
  have c_kr := cells_of kr
  have f_kr := free_of kr
  have l_kr_V := lt_of kr
  go_quiet (fail)
  go_wp2_with fail
  go_ret
  exact ⟨rfl, hG.trans (Gr.drewN _ _)⟩
set_option maxRecDepth 100000 in
set_option maxHeartbeats 4000000 in
theorem rless_calls (v : Value) (ts : List (List UInt8)) (d1 a1 d2 a2 : Nat) (t1 t2 : List UInt8) (ht1 : ts[d1]? = some t1) (ha1 : a1 ≤ t1.length) (ht2 : ts[d2]? = some t2) (ha2 : a2 ≤ t2.length) (hl1 : t1.length ≤ 50000) (r : Bool) (hr : lessL (decide (d1 < d2)) (t1.drop a1) (t2.drop a2) = r) (w : World) (h : Rk w 1 v ts.length (ts.map strOf)) :
    Calls Tryz.prog 100 #[v, .agg #[.int .i64 (d1 : Int), .int .i64 (a1 : Int)], .agg #[.int .i64 (d2 : Int), .int .i64 (a2 : Int)]] w fun e w' => e = .returned (.bool r) ∧ Gr w w' := by
  obtain ⟨hd1, -⟩ := List.getElem?_eq_some_iff.1 ht1
  obtain ⟨hd2, -⟩ := List.getElem?_eq_some_iff.1 ht2
  obtain ⟨h1, A, cap, rfl, h2⟩ := h
  obtain ⟨g, cs, T, rfl, kg, hcs⟩ := h2 (by omega)
  have hc1 : cs[d1]? = some (strOf t1) := by rw [hcs d1 (by omega), List.getElem?_map, ht1]; rfl
  have hc2 : cs[d2]? = some (strOf t2) := by rw [hcs d2 (by omega), List.getElem?_map, ht2]; rfl
  have n1 : (d1 : Int) < (ts.length : Int) := by omega
  have n2 : (d2 : Int) < (ts.length : Int) := by omega
  have f1 := str_from t1 a1 ha1
  have f2 := str_from t2 a2 ha2
  have HR := Lib.hid hr; clear hr
  have Hcs := Lib.hid hcs; have H1 := Lib.hid h1; have HT1 := Lib.hid ht1; have HT2 := Lib.hid ht2; have HA1 := Lib.hid ha1; have HA2 := Lib.hid ha2
  clear h1 h2 hcs ht1 ht2 hd1 hd2 ha1 ha2
  obtain ⟨s, hs⟩ : ∃ s, t1.drop a1 = s := ⟨_, rfl⟩
  obtain ⟨t, ht⟩ : ∃ t, t2.drop a2 = t := ⟨_, rfl⟩
  have hs0 : s.length ≤ 50000 := by rw [← hs, List.length_drop]; omega
  rw [hs] at f1 HR
  rw [ht] at f2 HR
  clear hs ht
  go_enter Tryz.func100, Tryz.ntmps100
  have c_kg := cells_of kg
  have f_kg := free_of kg
  have l_kg_w := lt_of kg
  go_wp2_with fail
  refine wp_scope_ghost 0 (fun n a' wr => ∃ (i : Nat), (i + n = s.length + 1 ∧ i ≤ s.length ∧ i ≤ t.length ∧ Hid (lessL (decide (d1 < d2)) (s.drop i) (t.drop i) = r) ∧ wr.heap[w.heap.size]? = some (.cells #[.int .i64 (d1 : Int), .int .i64 (a1 : Int)] 36 (0, 0)) ∧ wr.heap[w.heap.size + 1]? = some (.cells #[.int .i64 (d2 : Int), .int .i64 (a2 : Int)] 36 (0, 0)) ∧ Gr w wr) ∧ ∃ u0 u1 u2 u3 u6 u10 u11 u12 u13 u14 u15 u16 u17 u18 u19 u20 u21 u22 u23 u24 u25 u26 u27 u28 u29 u30 u31 u32 u33 u34 u35 u36 u37 u38 u39 u40 u41 u42 u43 u44 u45 u46 u47 u48 u49 u50 u51 u52 u53 u54 u55 u56 u57 u58 u59 u60 u61 u62 u63 u64 u65 u66 u67 u68 u69 u70 u71 u72 u73 u74 u75 u76 u77 u78 : Value, a' = { tmps := #[u0, u1, u2, u3, (.pointer (some ⟨w.heap.size, 0, none⟩) : Value), (.pointer (some ⟨w.heap.size + 1, 0, none⟩) : Value), u6, (strOf s : Value), (strOf t : Value), (.int .i64 (i : Int) : Value), u10, u11, u12, u13, u14, u15, u16, u17, u18, u19, u20, u21, u22, u23, u24, u25, u26, u27, u28, u29, u30, u31, u32, u33, u34, u35, u36, u37, u38, u39, u40, u41, u42, u43, u44, u45, u46, u47, u48, u49, u50, u51, u52, u53, u54, u55, u56, u57, u58, u59, u60, u61, u62, u63, u64, u65, u66, u67, u68, u69, u70, u71, u72, u73, u74, u75, u76, u77, u78], defers := [] }) (by rfl) ?first ?pass
  case first =>
    intro hrest
    go_wp2_with fail
    refine calls_gen fun V hV => ?_
    have hG : Gr w V := by rw [hV]; exact (Gr.alloc _ _).trans (Gr.alloc _ _)
    have ka : V.heap[w.heap.size]? = some (.cells #[.int .i64 (d1 : Int), .int .i64 (a1 : Int)] 36 (0, 0)) := by rw [hV]; exact keep_blk (Gr.alloc _ _).below (blk_new _ _ _ rfl)
    have kb : V.heap[w.heap.size + 1]? = some (.cells #[.int .i64 (d2 : Int), .int .i64 (a2 : Int)] 36 (0, 0)) := by rw [hV]; exact blk_new _ _ _ (siz_alloc _ _).symm
    replace kg := keep_blk hG.below kg
    clear hV c_kg f_kg
    have c_kg := cells_of kg
    have f_kg := free_of kg
    have l_kg_V := lt_of kg
    have c_ka := cells_of ka
    have f_ka := free_of ka
    have l_ka_V := lt_of ka
    have c_kb := cells_of kb
    have f_kb := free_of kb
    have l_kb_V := lt_of kb
    refine (is_calls _ ts d1 a1 t1 HT1.out HA1.out _ ⟨H1.out, _, _, rfl, fun _ => ⟨g, cs, T, rfl, kg, Hcs.out⟩⟩).mono ?_
    rintro e1 W1 ⟨rfl, hG1⟩
    replace kg := keep_blk hG1.below kg; replace ka := keep_blk hG1.below ka; replace kb := keep_blk hG1.below kb
    replace hG := hG.trans hG1
    clear hG1 c_kg f_kg c_ka f_ka c_kb f_kb
    have c_kg := cells_of kg
    have f_kg := free_of kg
    have l_kg_W1 := lt_of kg
    have c_ka := cells_of ka
    have f_ka := free_of ka
    have l_ka_W1 := lt_of ka
    have c_kb := cells_of kb
    have f_kb := free_of kb
    have l_kb_W1 := lt_of kb
    go_wp2_with fail
    refine (is_calls _ ts d2 a2 t2 HT2.out HA2.out _ ⟨H1.out, _, _, rfl, fun _ => ⟨g, cs, T, rfl, kg, Hcs.out⟩⟩).mono ?_
    rintro e2 W2 ⟨rfl, hG2⟩
    replace kg := keep_blk hG2.below kg; replace ka := keep_blk hG2.below ka; replace kb := keep_blk hG2.below kb
    replace hG := hG.trans hG2
    clear hG2 c_kg f_kg c_ka f_ka c_kb f_kb
    have c_kg := cells_of kg
    have f_kg := free_of kg
    have l_kg_W2 := lt_of kg
    have c_ka := cells_of ka
    have f_ka := free_of ka
    have l_ka_W2 := lt_of ka
    have c_kb := cells_of kb
    have f_kb := free_of kb
    have l_kb_W2 := lt_of kb
    go_wp2_with fail
    go_quiet (fail)
    clear f1 f2 hc1 hc2 n1 n2 Hcs H1 HT1 HT2 HA1 HA2
    go_wp2_with fail
    go_step3
    go_step
    go_step
    refine hrest (s.length + 1) _ _ ⟨0, ⟨by omega, by omega, by omega, HR, ka, kb, hG.trans (Gr.drewN _ _)⟩, ?_⟩
    exact ⟨_, _, _, _, _, _, _, _, _, _, _, _, _, _, _, _, _, _, _, _, _, _, _, _, _, _, _, _, _, _, _, _, _, _, _, _, _, _, _, _, _, _, _, _, _, _, _, _, _, _, _, _, _, _, _, _, _, _, _, _, _, _, _, _, _, _, _, _, _, _, _, _, _, _, rfl⟩
  case pass =>
    rintro n a' wr ⟨i, ⟨hk, hi1, hi2, Hl, ka, kb, hG⟩, u0, u1, u2, u3, u6, u10, u11, u12, u13, u14, u15, u16, u17, u18, u19, u20, u21, u22, u23, u24, u25, u26, u27, u28, u29, u30, u31, u32, u33, u34, u35, u36, u37, u38, u39, u40, u41, u42, u43, u44, u45, u46, u47, u48, u49, u50, u51, u52, u53, u54, u55, u56, u57, u58, u59, u60, u61, u62, u63, u64, u65, u66, u67, u68, u69, u70, u71, u72, u73, u74, u75, u76, u77, u78, rfl⟩ J hJ
    clear f1 f2 hc1 hc2 n1 n2 Hcs H1 HT1 HT2 HA1 HA2 HR kg c_kg f_kg
    have c_ka := cells_of ka
    have f_ka := free_of ka
    have l_ka_wr := lt_of ka
    have c_kb := cells_of kb
    have f_kb := free_of kb
    have l_kb_wr := lt_of kb
    by_cases c1 : i = s.length
    · have e1 : s.drop i = [] := by rw [c1]; simp
      by_cases c2 : i = t.length
      · have e2 : t.drop i = [] := by rw [c2]; simp
        have hl := Hl.out
        rw [e1, e2] at hl
        unfold lessL at hl
        have hL := Lib.hid hl
        have q1 : ((i : Int) == (s.length : Int)) = true := by rw [c1]; exact beq_self_eq_true _
        have q2 : ((i : Int) == (t.length : Int)) = true := by rw [c2]; exact beq_self_eq_true _
        clear hl Hl e1 e2 hk hi1 hi2 c1 c2
        go_wp2_with fail
        simp only [Exit.jump]
        go_ret
        exact ⟨by rw [← hL.out]; first | rfl | simp, hG⟩
      · obtain ⟨y, hy⟩ := at_some (show i < t.length by omega)
        have e2 := drop_at hy
        clear hy
        have hl := Hl.out
        rw [e1, e2] at hl
        unfold lessL at hl
        have hL := Lib.hid hl
        have q1 : ((i : Int) == (s.length : Int)) = true := by rw [c1]; exact beq_self_eq_true _
        have q2 : ((i : Int) == (t.length : Int)) = false := by rw [beq_eq_false_iff_ne]; omega
        clear hl Hl e1 e2 hk hi1 hi2 c1 c2
        go_wp2_with fail
        simp only [Exit.jump]
        go_ret
        exact ⟨by rw [← hL.out]; rfl, hG⟩
    · have q1 : ((i : Int) == (s.length : Int)) = false := by rw [beq_eq_false_iff_ne]; omega
      obtain ⟨x, hx⟩ := at_some (show i < s.length by omega)
      have e1 := drop_at hx
      by_cases c2 : i = t.length
      · have e2 : t.drop i = [] := by rw [c2]; simp
        have hl := Hl.out
        rw [e1, e2] at hl
        unfold lessL at hl
        have hL := Lib.hid hl
        have q2 : ((i : Int) == (t.length : Int)) = true := by rw [c2]; exact beq_self_eq_true _
        clear hl Hl e1 e2 hk hi1 hi2 c1 c2 hx
        go_wp2_with fail
        simp only [Exit.jump]
        go_ret
        exact ⟨by rw [← hL.out]; rfl, hG⟩
      · have q2 : ((i : Int) == (t.length : Int)) = false := by rw [beq_eq_false_iff_ne]; omega
        obtain ⟨y, hy⟩ := at_some (show i < t.length by omega)
        have e2 := drop_at hy
        have g1 := str_index s i x hx
        have g2 := str_index t i y hy
        have hl := Hl.out
        rw [e1, e2] at hl
        unfold lessL at hl
        have hi1' : i < s.length := by omega
        have hi2' : i < t.length := by omega
        clear Hl e1 e2 hx hy c1 c2
        by_cases c3 : x = y
        · rw [if_pos c3] at hl
          subst c3
          have hL := Lib.hid hl
          have Hk := Lib.hid hk; have Hi := Lib.hid (And.intro hi1' hi2')
          have e3 : wrap64 ((i : Int) + 1) = ((i + 1 : Nat) : Int) := (IntWalk.wrap64_in _ (by omega)).trans (by omega)
          clear hl hk hi1 hi2 hi1' hi2'
          go_wp2_with fail
          go_quiet (fail)
          go_wp2_with fail
          rw [e3]
          go_step3
          refine ⟨rfl, hJ _ _ ⟨n - 1, by have := Hk.out; have := Hi.out; omega, i + 1, ⟨by have := Hk.out; have := Hi.out; omega, by have := Hi.out; omega, by have := Hi.out; omega, hL, ka, kb, hG.trans (Gr.drewN _ _)⟩, ?_⟩⟩
          exact ⟨_, _, _, _, _, _, _, _, _, _, _, _, _, _, _, _, _, _, _, _, _, _, _, _, _, _, _, _, _, _, _, _, _, _, _, _, _, _, _, _, _, _, _, _, _, _, _, _, _, _, _, _, _, _, _, _, _, _, _, _, _, _, _, _, _, _, _, _, _, _, _, _, _, _, rfl⟩
        · rw [if_neg c3] at hl
          have hL := Lib.hid hl
          have q3 : ((x.toNat : Int) == (y.toNat : Int)) = false := by
            rw [beq_eq_false_iff_ne]; intro h; exact c3 (UInt8.toNat_inj.1 (by omega))
          clear hl hk hi1 hi2 hi1' hi2' c3
          go_wp2_with fail
          go_quiet (fail)
          go_wp2_with fail
          refine wp_gen fun V6 hV6 => ?_
          have hG6 : Gr w V6 := by rw [hV6]; exact hG.trans (Gr.drewN _ _)
          have ka6 := (congrArg (fun v : World => v.heap[w.heap.size]?) hV6).trans ka
          have kb6 := (congrArg (fun v : World => v.heap[w.heap.size + 1]?) hV6).trans kb
          clear hV6 c_ka f_ka c_kb f_kb
          have c_ka6 := cells_of ka6
          have f_ka6 := free_of ka6
          have l_ka6_V6 := lt_of ka6
          have c_kb6 := cells_of kb6
          have f_kb6 := free_of kb6
          have l_kb6_V6 := lt_of kb6
          go_quiet (fail)
          go_wp2_with fail
          simp only [Exit.jump]
          go_ret
          exact ⟨by rw [← hL.out]; first | rfl | simp, hG6.trans (Gr.drewN _ _)⟩
set_option maxRecDepth 100000 in
set_option maxHeartbeats 2000000 in
theorem cmpR_calls (v : Value) (ts : List (List UInt8)) (h5 : ∀ t, t ∈ ts → t.length ≤ 50000) (x y : RowT ts) (bl : Nat) (w : World) (kl : w.heap[bl]? = some (.cells #[v] 31 (0, 0))) (h : Rk w 1 v ts.length (ts.map strOf)) :
    Calls Tryz.prog 99 #[.agg #[.int .i64 (x.1.1 : Int), .int .i64 (x.1.2 : Int)], .agg #[.int .i64 (y.1.1 : Int), .int .i64 (y.1.2 : Int)], .pointer (some ⟨bl, 0, none⟩)] w fun e w' => e = .returned (.int .i64 (cmpR ts x y)) ∧ Gr w w' := by
  obtain ⟨x, t1, ht1, ha1⟩ := x
  obtain ⟨y, t2, ht2, ha2⟩ := y
  dsimp only
  have hr : lessL (decide (x.1 < y.1)) (t1.drop x.2) (t2.drop y.2) = refLess ts x y := by unfold refLess; rw [getD_at ht1, getD_at ht2]
  have h5' := h5 _ (List.mem_of_getElem? ht1)
  unfold cmpR
  dsimp only
  generalize refLess ts x y = r at hr ⊢
  have HK := Lib.hid h; have Hr := Lib.hid hr; have HT1 := Lib.hid ht1; have HT2 := Lib.hid ht2; have HA1 := Lib.hid ha1; have HA2 := Lib.hid ha2
  clear h hr ht1 ht2 ha1 ha2 h5
  obtain ⟨d1, a1⟩ := x
  obtain ⟨d2, a2⟩ := y
  dsimp only at HT1 HT2 HA1 HA2 Hr ⊢
  go_enter Tryz.func99, Tryz.ntmps99
  have c_kl := cells_of kl
  have f_kl := free_of kl
  have l_kl_w := lt_of kl
  go_wp2_with fail
  refine calls_gen fun V hV => ?_
  have hG : Gr w V := by rw [hV]; exact (Gr.alloc _ _).trans (Gr.alloc _ _)
  clear hV
  refine (rless_calls v ts d1 a1 d2 a2 t1 t2 HT1.out HA1.out HT2.out HA2.out h5' r Hr.out _ (HK.out.below hG.below)).mono ?_
  rintro e1 W1 ⟨rfl, hG1⟩
  cases r with
  | true =>
    go_wp2_with fail
    go_ret
    exact ⟨rfl, hG.trans hG1⟩
  | false =>
    go_wp2_with fail
    go_ret
    exact ⟨rfl, hG.trans hG1⟩
end Go.Proofs.YtpdpcgmkpgfblaaGreat
