/- The arena's Work. -/
import Derived.Test.YtkgabbenmoocgaaArenaMake
import Derived.Test.YtkgabbenmoocgaaHeld
namespace Go.Proofs.Ytkgabbenmoocgaa
set_option linter.unusedSimpArgs false
set_option linter.unusedVariables false
set_option linter.unnecessarySimpa false
open Go.RowKit
attribute [local go_sem ↓] Go.wp_at_zero Go.wp_at_succ
attribute [local go_sem] lt_s2 lt_s3 lt_s4
attribute [local go_sem] idx0 idx1 idx2 idx3
variable {ap : Value} {s : Ar} {O : Nat → Prop}
set_option maxRecDepth 100000 in
set_option maxHeartbeats 4000000 in
theorem work_calls (most : Int) (r : Int × Ar) (hr : s.work most = some r) (w : World) (hA : AP w ap s O) :
    Calls Try.prog 31 #[ap, .int .i64 most] w fun e w' => e = .returned (.int .i64 r.1) ∧ Did noX ap r.2 O w w' := by
  have hb' := Lib.hid hr; clear hr
  go_enter Try.func31, Try.ntmps31
  go_wp2_with fail
  refine wp_scope_ghost 0 (fun n a' wr => ∃ x s1 O1, (AP wr ap s1 O1 ∧ Fr noX O O1 w wr ∧ Hid (Ar.workL n s1 most x = some r)) ∧ ∃ u2 u3 u4 u6 u7 u8 u9 u10 u11 u12 u13 u14 u15 u16 u17 u18 u19 u20 u21 u22 u23 u24 u25 u26 u27 u28 u29 u30 u31 u32 u33 u34 u35 u36 u37 u38 u39 u40 u41 u42 u43 u44 u45 u46 u47 u48 u49 u50 u51 u52 u53 u54 u55 u56 u57 u58 u59 u60 u61 u62 u63 u64 u65 u66 u67 u68 u69 u70 : Value, a' = { tmps := #[(ap : Value), (.int .i64 most : Value), u2, u3, u4, (.int .i64 x : Value), u6, u7, u8, u9, u10, u11, u12, u13, u14, u15, u16, u17, u18, u19, u20, u21, u22, u23, u24, u25, u26, u27, u28, u29, u30, u31, u32, u33, u34, u35, u36, u37, u38, u39, u40, u41, u42, u43, u44, u45, u46, u47, u48, u49, u50, u51, u52, u53, u54, u55, u56, u57, u58, u59, u60, u61, u62, u63, u64, u65, u66, u67, u68, u69, u70], defers := [] }) (by rfl) ?first ?pass
  case first =>
    intro hrest
    go_wp2_with fail
    go_step3
    go_step
    go_step
    refine hrest rounds _ _ ⟨0, s, O, ⟨hA, Fr.refl _ _ _, hb'⟩, ?_⟩
    exact ⟨_, _, _, _, _, _, _, _, _, _, _, _, _, _, _, _, _, _, _, _, _, _, _, _, _, _, _, _, _, _, _, _, _, _, _, _, _, _, _, _, _, _, _, _, _, _, _, _, _, _, _, _, _, _, _, _, _, _, _, _, _, _, _, _, _, _, _, _, rfl⟩
  case pass =>
    rintro n a' wr ⟨x, s1, O1, ⟨hA, hF0, hb'⟩, u2, u3, u4, u6, u7, u8, u9, u10, u11, u12, u13, u14, u15, u16, u17, u18, u19, u20, u21, u22, u23, u24, u25, u26, u27, u28, u29, u30, u31, u32, u33, u34, u35, u36, u37, u38, u39, u40, u41, u42, u43, u44, u45, u46, u47, u48, u49, u50, u51, u52, u53, u54, u55, u56, u57, u58, u59, u60, u61, u62, u63, u64, u65, u66, u67, u68, u69, u70, rfl⟩ J hJ
    have hb := hb'.out
    clear hb'
    cases n with
    | zero => exact absurd hb (by simp [Ar.workL])
    | succ n =>
      unfold Ar.workL at hb
      by_cases h1 : most ≤ x
      · rw [if_pos h1] at hb
        have d1 : decide (most ≤ x) = true := by simpa using h1
        obtain rfl := Option.some.inj hb
        clear hb h1
        have HF := Lib.hid hF0; clear hF0
        go_wp2_with fail
        simp only [Exit.jump]
        go_ret
        exact ⟨rfl, O1, hA, HF.out⟩
      · rw [if_neg h1] at hb
        have d1 : decide (most ≤ x) = false := by simpa using h1
        clear h1
        cases hwt : s1.wait with
        | nil =>
          rw [hwt] at hb
          obtain rfl := Option.some.inj hb
          clear hb
          have HF := Lib.hid hF0; clear hF0
          go_wp2_with fail
          refine (pending_calls _ hA).mono ?_
          rintro e w1 ⟨rfl, rfl⟩
          rw [hwt]
          go_wp2_with fail
          simp only [Exit.jump]
          go_ret
          exact ⟨rfl, O1, hA, HF.out⟩
        | cons h l =>
          rw [hwt] at hb
          dsimp only at hb
          have hm := hA.1.mem h (by rw [hwt]; simp)
          obtain ⟨p, nb, cb, ub, wv, rfl, hR⟩ := hA.raw (by omega)
          have hwv := hR.hw
          rw [hwt] at hwv
          rcases hwv with ⟨-, h0⟩ | ⟨g, off, cap, c, rfl, hg, hl1, hl2, hl3, hl4⟩
          · cases h0
          have hs := hA.1.small
          have Hb := Lib.hid hb; clear hb
          have HF := Lib.hid hF0; clear hF0
          obtain ⟨cp, cc, cu, n0, n1, n2, n3, n4, n5, n6⟩ := hR.reads
          have cu := cu h hm.2.1; have n0 := n0 h hm.2.1; have n1 := n1 h hm.2.1; have n2 := n2 h hm.2.1; have n3 := n3 h hm.2.1; have n4 := n4 h hm.2.1; have n5 := n5 h hm.2.1; have n6 := n6 h hm.2.1
          clear cc
          have hc4 := hl4 0 (by simp)
          simp only [Nat.add_zero, List.getElem_cons_zero] at hc4
          have cw : wr.cell? ⟨g, off, none⟩ = some (.int .i64 (h : Int)) := by rw [cells_of hg]; exact hc4
          clear hc4
          have hne1 := hR.pn; have hne2 := hR.pc; have hne3 := hR.pu; have hne4 := hR.nc; have hne5 := hR.nu; have hne6 := hR.cu
          have fn := free_of hR.hn; have fu := free_of hR.hu; have fp := free_of hR.hp
          have d3 : (h : Int) < (s1.size : Int) + 1 := by omega
          have d4 : (0 : Int) ≤ (h : Int) := by omega
          have HR := Lib.hid hR; clear hR
          have hO1 : ∀ y, wr.heap.size ≤ y → ¬ O1 y := fun y hy => hA.new hy
          have hWq := hA.1.pop hwt
          have HW := Lib.hid hWq; clear hWq
          go_wp2_with fail
          refine (pending_calls _ hA).mono ?_
          rintro e w1 ⟨rfl, rfl⟩
          rw [hwt]
          clear hA
          have HL4 := Lib.hid hl4; clear hl4
          have HG := Lib.hid hg; clear hg
          have Hwt := Lib.hid hwt; clear hwt
          by_cases hcap : cap = 1
          all_goals
            go_wp2_with fail
            refine wp_gen fun V hV => ?_
            have key : ∃ nv, Raw V p s1.size nb cb ub nv (nodeF s1) (countF s1) (usedF s1) s1.busy s1.made l O1 ∧ V.heap[wr.heap.size]? = some (.cells #[.int .i64 (s1.node h).k0, .int .i64 (s1.node h).k1, .int .i64 (s1.node h).k2, .int .i64 (s1.node h).k3] 45 (0, 0)) ∧ Fr noX O O1 w V := by
              have hR := HR.out
              have hl1' : l.length + 1 ≤ cap := by simpa using hl1
              have hnb : (Value.slice (some ⟨g, off, none⟩) (h :: l).length cap).ownBlock = some g := rfl
              have hwt2 : ∀ (o2 c2 : Nat), (l.length = 0 ∨ o2 = off + 1) → l.length ≤ c2 → o2 + c2 ≤ off + cap → Wt wr (.slice (some ⟨g, o2, none⟩) l.length c2) l := by
                intro o2 c2 ho hc2 hoc
                refine .inr ⟨g, o2, c2, c, rfl, HG.out, hc2, by omega, by omega, fun i hi => ?_⟩
                have ho2 : o2 = off + 1 := by omega
                subst ho2
                have := HL4.out (i + 1) (by simp; omega)
                rw [show off + 1 + i = off + (i + 1) by omega, this]
                simp
              have hO := hR.ow g hnb
              have h1 : g ≠ cb := fun e => hR.ncw (by rw [hnb, e])
              have h2 : g ≠ p := fun e => hR.wp (by rw [hnb, e])
              first
              | exact ⟨_, by rw [hV]; exact (hR.setW (.slice (some ⟨g, off + 1, none⟩) l.length (cap - 1)) l (hwt2 _ _ (.inr rfl) (by omega) (by omega)) (by simp [Value.ownBlock]; exact h1) (by simp [Value.ownBlock]; exact h2) (by simp [Value.ownBlock]; exact hO)).alloc _, by rw [hV]; exact blk_new _ _ _ (by rw [siz_set]), by rw [hV]; exact (HF.out.ownSet (q := ⟨p, 3, none⟩) hR.op _).alloc _⟩
              | exact ⟨_, by rw [hV]; exact (hR.setW (.slice (some ⟨g, off, none⟩) l.length (cap - 1)) l (hwt2 _ _ (.inl (by omega)) (by omega) (by omega)) (by simp [Value.ownBlock]; exact h1) (by simp [Value.ownBlock]; exact h2) (by simp [Value.ownBlock]; exact hO)).alloc _, by rw [hV]; exact blk_new _ _ _ (by rw [siz_set]), by rw [hV]; exact (HF.out.ownSet (q := ⟨p, 3, none⟩) hR.op _).alloc _⟩
              | exact ⟨_, by rw [hV]; exact (hR.setW (.slice (some ⟨g, off, none⟩) l.length 0) l (hwt2 _ _ (.inl (by omega)) (by omega) (by omega)) (by simp [Value.ownBlock]; exact h1) (by simp [Value.ownBlock]; exact h2) (by simp [Value.ownBlock]; exact hO)).alloc _, by rw [hV]; exact blk_new _ _ _ (by rw [siz_set]), by rw [hV]; exact (HF.out.ownSet (q := ⟨p, 3, none⟩) hR.op _).alloc _⟩
            obtain ⟨nv, hRV, hk, hFV⟩ := key
            have hz : wr.heap.size < V.heap.size := lt_of hk
            have hx1 : wr.heap.size ≠ nb := fun e => hO1 _ (Nat.le_refl _) (by rw [e]; exact hRV.on)
            have hx2 : wr.heap.size ≠ cb := fun e => hO1 _ (Nat.le_refl _) (by rw [e]; exact hRV.oc)
            have hx3 : wr.heap.size ≠ ub := fun e => hO1 _ (Nat.le_refl _) (by rw [e]; exact hRV.ou)
            have hx4 : wr.heap.size ≠ p := fun e => hO1 _ (Nat.le_refl _) (by rw [e]; exact hRV.op)
            have hkO : ¬ O1 wr.heap.size := hO1 _ (Nat.le_refl _)
            clear hV HL4 HG HR HF cp cu n0 n1 n2 n3 n4 n5 n6 cw fn fu fp hl1 hl2 hl3
            obtain ⟨cp, cc, cu, n0, n1, n2, n3, n4, n5, n6⟩ : ArenaC V p { s1 with wait := l } nb cb ub nv := RawS.reads (s := { s1 with wait := l }) hRV
            have cu := cu h hm.2.1; have n0 := n0 h hm.2.1; have n1 := n1 h hm.2.1; have n2 := n2 h hm.2.1; have n3 := n3 h hm.2.1; have n4 := n4 h hm.2.1; have n5 := n5 h hm.2.1; have n6 := n6 h hm.2.1
            clear cc
            dsimp only at cp cu n0 n1 n2 n3 n4 n5 n6
            have ck := cells_of hk
            have fn := free_of hRV.hn; have fu := free_of hRV.hu
            have HRV := Lib.hid hRV; clear hRV
            have HFV := Lib.hid hFV; clear hFV
            go_region
            have fp := free_of HRV.out.hp
            go_wp2_with fail
            refine wp_gen fun V2 hV2 => ?_
            have key2 : AP V2 (.pointer (some ⟨p, 0, none⟩)) (s1.pop h l) O1 ∧ Fr noX O O1 w V2 := by
              have hR2 := HRV.out
              have hfin := (((((((((hR2.setN (h * 7) (.int .i64 0)).setN (h * 7 + 1) (.int .i64 0)).setN (h * 7 + 2) (.int .i64 0)).setN (h * 7 + 3) (.int .i64 0)).setN (h * 7 + 4) (.int .i64 0)).setN (h * 7 + 5) (.int .u64 0)).setN (h * 7 + 6) (.int .u64 0)).setU h (.bool false)).setB (wrap64 (s1.busy - 1)))
              have hf0 := HFV.out
              have o1 := hR2.op; have o2 := hR2.on; have o4 := hR2.ou
              rw [hV2]
              constructor
              · refine (AP.of_raw (nb := nb) (cb := cb) (ub := ub) (wv := nv) (s := s1.pop h l) ?_ HW.out).drew
                refine hfin.congr (fun i _ => (nodeF_upd _ h Nd.zero i).trans ?_) (fun i _ => rfl) (fun i _ => ?_)
                · rfl
                · unfold updF usedF Ar.pop upd; dsimp only; split <;> rfl
              · clear hfin
                exact (((((((((hf0.ownSet (q := _) (by exact o2) _).ownSet (q := _) (by exact o2) _).ownSet (q := _) (by exact o2) _).ownSet (q := _) (by exact o2) _).ownSet (q := _) (by exact o2) _).ownSet (q := _) (by exact o2) _).ownSet (q := _) (by exact o2) _).ownSet (q := _) (by exact o4) _).ownSet (q := _) (by exact o1) _).drew
            obtain ⟨hA2, hF2⟩ := key2
            clear hV2 HRV HFV
            have HA2 := Lib.hid hA2; have HF2 := Lib.hid hF2; clear hA2 hF2
            go_loopw [62] (fun y w3 => ∃ i : Nat, i ≤ 4 ∧ y = .int .i64 i ∧ ∃ O', AP w3 (.pointer (some ⟨p, 0, none⟩)) ((s1.pop h l).dropAll ((s1.node h).kids.take i)) O' ∧ Fr noX O O' w w3) (fun y _ => 4 - (intOf y).toNat)
            case atStart => exact ⟨0, by omega, rfl, _, HA2.out, HF2.out⟩
            case round =>
              obtain ⟨i, hi, rfl, O', hA', hF'⟩ := hrel
              rcases (show i = 0 ∨ i = 1 ∨ i = 2 ∨ i = 3 ∨ i = 4 by omega) with rfl | rfl | rfl | rfl | rfl
              · have HA := Lib.hid hA'; have HF2 := Lib.hid hF'; clear hA' hF'
                go_wp2_with fail
                refine (drop_calls _ _ HA.out).mono ?_
                rintro e1 w1 ⟨rfl, O3, hA1, hf1⟩
                go_wp2_with fail
                go_roundw
                case rel => exact ⟨1, by omega, rfl, O3, hA1, HF2.out.trans hf1⟩
                case measure => simp [intOf]
              · have HA := Lib.hid hA'; have HF2 := Lib.hid hF'; clear hA' hF'
                go_wp2_with fail
                refine (drop_calls _ _ HA.out).mono ?_
                rintro e1 w1 ⟨rfl, O3, hA1, hf1⟩
                go_wp2_with fail
                go_roundw
                case rel => exact ⟨2, by omega, rfl, O3, hA1, HF2.out.trans hf1⟩
                case measure => simp [intOf]
              · have HA := Lib.hid hA'; have HF2 := Lib.hid hF'; clear hA' hF'
                go_wp2_with fail
                refine (drop_calls _ _ HA.out).mono ?_
                rintro e1 w1 ⟨rfl, O3, hA1, hf1⟩
                go_wp2_with fail
                go_roundw
                case rel => exact ⟨3, by omega, rfl, O3, hA1, HF2.out.trans hf1⟩
                case measure => simp [intOf]
              · have HA := Lib.hid hA'; have HF2 := Lib.hid hF'; clear hA' hF'
                go_wp2_with fail
                refine (drop_calls _ _ HA.out).mono ?_
                rintro e1 w1 ⟨rfl, O3, hA1, hf1⟩
                go_wp2_with fail
                go_roundw
                case rel => exact ⟨4, by omega, rfl, O3, hA1, HF2.out.trans hf1⟩
                case measure => simp [intOf]
              · have HA := Lib.hid hA'; have HF3 := Lib.hid hF'; clear hA' hF'
                go_wp2_with fail
                go_step3
                refine ⟨rfl, hJ _ _ ⟨n, by omega, _, _, _, ⟨HA.out, HF3.out, Hb⟩, ?_⟩⟩
                exact ⟨_, _, _, _, _, _, _, _, _, _, _, _, _, _, _, _, _, _, _, _, _, _, _, _, _, _, _, _, _, _, _, _, _, _, _, _, _, _, _, _, _, _, _, _, _, _, _, _, _, _, _, _, _, _, _, _, _, _, _, _, _, _, _, _, _, _, _, _, rfl⟩
end Go.Proofs.Ytkgabbenmoocgaa
