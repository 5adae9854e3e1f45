/- Part 2 of what PutEmpty needs: the walks of the program's functions, and plain facts. -/
import Derived.Test.YtdjpjmkpndmhaaaGreatPutEmptyM1
import Derived.Test.YtdjpjmkpndmhaaaGreatProg
set_option linter.unusedSimpArgs false
set_option linter.unusedVariables false
set_option linter.unnecessarySimpa false
namespace Go.Proofs.YtdjpjmkpndmhaaaGreat
open Go.RowKit
attribute [local go_sem ↓] Go.wp_at_zero Go.wp_at_succ
attribute [local go_sem] lt_s2 lt_s3 lt_s4
variable {ap : Value} {s : Ar} {O : Nat → Prop}
set_option maxRecDepth 100000 in
set_option maxHeartbeats 800000 in
theorem bRow_no (h:Int) (h1:s.has h=false) (w:World) (hA:AP w ap s O):
  Calls Tryz.prog 83 #[ap, .int .i64 h] w fun e w'=>e= .returned (.tuple #[(s.get h).val, .bool false])∧Below w.heap.size w w':=by
 unfold Nd.val
 go_enter Tryz.func83,Tryz.ntmps83
 go_wp2_with fail
 refine calls_gen fun V hV_V=> ?_
 have n_k0:=hbk hV_V (w.heap.size)
 simp (maxDischargeDepth:=9) only [BK,not_false_eq_true,reduceCtorEq] at n_k0
 have o_k0: ¬O (w.heap.size):=by first|exact hA.new (Nat.le_refl _)|exact hA.new (by omega)
 have hB:Below w.heap.size w V:=nB hV_V
 replace hA:AP V ap s O:=nA hV_V
 have z_V:=zS hV_V
 clear hV_V
 have k0:=n_k0;clear n_k0
 obtain ⟨c_k0,f_k0,l_k0_V⟩:=f3 k0
 refine (aget_calls _ _ hA).mono ?_
 rintro e_w1 w1 ⟨rfl,hb_w1⟩
 replace hA:=hA.below hb_w1
 replace hB:=below_step hB hb_w1
 replace k0:=keep_blk hb_w1 k0
 have z_w1:=hb_w1.size
 clear hb_w1 c_k0 f_k0
 obtain ⟨c_k0,f_k0,l_k0_w1⟩:=f3 k0
 unfold Nd.val
 go_wp2_with fail
 refine wp_gen fun V1 hV_V1=> ?_
 have n_k1:=hbk hV_V1 (w1.heap.size)
 simp (maxDischargeDepth:=9) only [BK,not_false_eq_true,reduceCtorEq,k0,l_k0_V,l_k0_w1] at n_k1
 have o_k1: ¬O (w1.heap.size):=by first|exact hA.new (Nat.le_refl _)|exact hA.new (by omega)
 replace k0:=kK hV_V1 k0
 replace hB:Below w.heap.size w V1:=nB hV_V1
 replace hA:AP V1 ap s O:=nA hV_V1
 have z_V1:=zS hV_V1
 clear hV_V1 c_k0 f_k0
 obtain ⟨c_k0,f_k0,l_k0_V1⟩:=f3 k0
 have k1:=n_k1;clear n_k1
 obtain ⟨c_k1,f_k1,l_k1_V1⟩:=f3 k1
 refine wp_region_noPanic ?_
 refine wp_region_held_drew (S:=fun v=>(∀o,v.cell? ⟨w1.heap.size,o,none⟩=V1.cell? ⟨w1.heap.size,o,none⟩)∧(V1.heap.size≤v.heap.size)∧AP v ap s O) (by kernel_rfl) ⟨(fun _=>rfl),(Nat.le_refl _),hA.drew⟩ (fun hHeld=> ?_)
 generalize hV_V1d:V1.drew=V1d at hHeld⊢
 have d_k0:=dK hV_V1d k0
 have d_k1:=dK hV_V1d k1
 clear c_k0 f_k0 c_k1 f_k1
 replace hA:=hA.drew;rw [hV_V1d] at hA
 replace hB:=hB.drew;rw [hV_V1d] at hB
 have z_V1d:=dZ hV_V1d
 have v_k1:=cells_of k1
 clear k0;have k0:=d_k0;clear d_k0
 clear k1;have k1:=d_k1;clear d_k1
 obtain ⟨c_k0,f_k0,l_k0_V1d⟩:=f3 k0
 obtain ⟨c_k1,f_k1,l_k1_V1d⟩:=f3 k1
 clear hV_V1d
 refine tz 0 rfl hHeld ?_
 try simp only [PT]
 refine tz 1 rfl hHeld ?_
 try simp only [PT]
 refine tz 2 rfl hHeld ?_
 try simp only [PT]
 refine take_no (i:=3) rfl (by kernel_rfl) (by kernel_rfl) (by kernel_rfl) (fun _ _ _ h=>h) (by rfl) hHeld ?_
 try simp only [PT]
 refine take_no (i:=4) rfl (by kernel_rfl) (by kernel_rfl) (by kernel_rfl) (fun _ _ _ h=>h) (by rfl) hHeld ?_
 try simp only [PT]
 refine take_no (i:=5) rfl (by kernel_rfl) (by kernel_rfl) (by kernel_rfl) (fun _ _ _ h=>h) (by rfl) hHeld ?_
 try simp only [PT]
 refine take_no (i:=6) rfl (by kernel_rfl) (by kernel_rfl) (by kernel_rfl) (fun _ _ _ h=>h) (by rfl) hHeld ?_
 try simp only [PT]
 refine tz 7 rfl hHeld ?_
 try simp only [PT]
 refine tz 8 rfl hHeld ?_
 try simp only [PT]
 refine take_no (i:=9) rfl (by kernel_rfl) (by kernel_rfl) (by kernel_rfl) (fun _ _ _ h=>h) (by rfl) hHeld ?_
 try simp only [PT]
 refine take_no (i:=10) rfl (by kernel_rfl) (by kernel_rfl) (by kernel_rfl) (fun _ _ _ h=>h) (by rfl) hHeld ?_
 try simp only [PT]
 refine take_no (i:=11) rfl (by kernel_rfl) (by kernel_rfl) (by kernel_rfl) (fun _ _ _ h=>h) (by rfl) hHeld ?_
 try simp only [PT]
 refine take_no (i:=12) rfl (by kernel_rfl) (by kernel_rfl) (by kernel_rfl) (fun _ _ _ h=>h) (by rfl) hHeld ?_
 try simp only [PT]
 refine take_no (i:=13) rfl (by kernel_rfl) (by kernel_rfl) (by kernel_rfl) (fun _ _ _ h=>h) (by rfl) hHeld ?_
 try simp only [PT]
 refine take_no (i:=14) rfl (by kernel_rfl) (by kernel_rfl) (by kernel_rfl) (fun _ _ _ h=>h) (by rfl) hHeld ?_
 try simp only [PT]
 refine take_no (i:=15) rfl (by kernel_rfl) (by kernel_rfl) (by kernel_rfl) (fun _ _ _ h=>h) (by rfl) hHeld ?_
 try simp only [PT]
 refine take_no (i:=16) rfl (by kernel_rfl) (by kernel_rfl) (by kernel_rfl) (fun _ _ _ h=>h) (by rfl) hHeld ?_
 try simp only [PT]
 refine tz 17 rfl hHeld ?_
 try simp only [PT]
 refine rd 18 rfl fun K hK=> ?_
 go_simp
 refine gen_app (K:=K) (fun D hV_D=> ?_)
 replace k0:=kK hV_D k0
 replace k1:=kK hV_D k1
 replace hB:Below w.heap.size w D:=nB hV_D
 replace hA:AP D ap s O:=nA hV_D
 have z_D:=zS hV_D
 clear hV_D c_k0 f_k0 c_k1 f_k1
 obtain ⟨c_k0,f_k0,l_k0_D⟩:=f3 k0
 obtain ⟨c_k1,f_k1,l_k1_D⟩:=f3 k1
 refine hK.out _ _ ⟨(fun o=>(c_k1 o).trans (v_k1 o).symm),(by omega),hA⟩ (fun hHeld=> ?_)
 clear hK K
 try simp only [PT]
 refine rd 19 rfl fun K hK=> ?_
 go_simp
 refine hK.out _ _ hHeld (fun hHeld=> ?_)
 clear hK K
 try simp only [PT]
 refine wpAnyH_done (by kernel_rfl) ?_ _
 refine NoPanic.normal ?_
 go_wp2_with fail
 refine bodyPost_ret (v:= .tuple #[(s.get h).val, .bool false]) (by simp [results,Tryz.results83,go_sem,Nd.val, *]) rfl ⟨rfl,hB⟩
set_option maxRecDepth 100000 in
set_option maxHeartbeats 800000 in
theorem bRow_dead (h:Int) (h1:s.has h=true) (h2: ¬0<s.cnt h) (w:World) (hA:AP w ap s O):
  Calls Tryz.prog 83 #[ap, .int .i64 h] w fun e w'=>e= .returned (.tuple #[(s.get h).val, .bool false])∧Below w.heap.size w w':=by
 unfold Nd.val
 have d1:decide (0<s.cnt h)=false:=by simpa using h2
 clear h2
 go_enter Tryz.func83,Tryz.ntmps83
 go_wp2_with fail
 refine calls_gen fun V hV_V=> ?_
 have n_k0:=hbk hV_V (w.heap.size)
 simp (maxDischargeDepth:=9) only [BK,not_false_eq_true,reduceCtorEq] at n_k0
 have o_k0: ¬O (w.heap.size):=by first|exact hA.new (Nat.le_refl _)|exact hA.new (by omega)
 have hB:Below w.heap.size w V:=nB hV_V
 replace hA:AP V ap s O:=nA hV_V
 have z_V:=zS hV_V
 clear hV_V
 have k0:=n_k0;clear n_k0
 obtain ⟨c_k0,f_k0,l_k0_V⟩:=f3 k0
 refine (aget_calls _ _ hA).mono ?_
 rintro e_w1 w1 ⟨rfl,hb_w1⟩
 replace hA:=hA.below hb_w1
 replace hB:=below_step hB hb_w1
 replace k0:=keep_blk hb_w1 k0
 have z_w1:=hb_w1.size
 clear hb_w1 c_k0 f_k0
 obtain ⟨c_k0,f_k0,l_k0_w1⟩:=f3 k0
 unfold Nd.val
 go_wp2_with fail
 refine wp_gen fun V1 hV_V1=> ?_
 have n_k1:=hbk hV_V1 (w1.heap.size)
 simp (maxDischargeDepth:=9) only [BK,not_false_eq_true,reduceCtorEq,k0,l_k0_V,l_k0_w1] at n_k1
 have o_k1: ¬O (w1.heap.size):=by first|exact hA.new (Nat.le_refl _)|exact hA.new (by omega)
 replace k0:=kK hV_V1 k0
 replace hB:Below w.heap.size w V1:=nB hV_V1
 replace hA:AP V1 ap s O:=nA hV_V1
 have z_V1:=zS hV_V1
 clear hV_V1 c_k0 f_k0
 obtain ⟨c_k0,f_k0,l_k0_V1⟩:=f3 k0
 have k1:=n_k1;clear n_k1
 obtain ⟨c_k1,f_k1,l_k1_V1⟩:=f3 k1
 refine wp_region_noPanic ?_
 refine wp_region_held_drew (S:=fun v=>(∀o,v.cell? ⟨w1.heap.size,o,none⟩=V1.cell? ⟨w1.heap.size,o,none⟩)∧(V1.heap.size≤v.heap.size)∧AP v ap s O) (by kernel_rfl) ⟨(fun _=>rfl),(Nat.le_refl _),hA.drew⟩ (fun hHeld=> ?_)
 generalize hV_V1d:V1.drew=V1d at hHeld⊢
 have d_k0:=dK hV_V1d k0
 have d_k1:=dK hV_V1d k1
 clear c_k0 f_k0 c_k1 f_k1
 replace hA:=hA.drew;rw [hV_V1d] at hA
 replace hB:=hB.drew;rw [hV_V1d] at hB
 have z_V1d:=dZ hV_V1d
 have v_k1:=cells_of k1
 clear k0;have k0:=d_k0;clear d_k0
 clear k1;have k1:=d_k1;clear d_k1
 obtain ⟨c_k0,f_k0,l_k0_V1d⟩:=f3 k0
 obtain ⟨c_k1,f_k1,l_k1_V1d⟩:=f3 k1
 clear hV_V1d
 refine tz 0 rfl hHeld ?_
 try simp only [PT]
 refine tz 1 rfl hHeld ?_
 try simp only [PT]
 refine tz 2 rfl hHeld ?_
 try simp only [PT]
 refine tz 3 rfl hHeld ?_
 try simp only [PT]
 refine tz 4 rfl hHeld ?_
 try simp only [PT]
 refine take_call (i:=5) (f:= ?_) (args:= ?_) (v:= ?_) rfl (by kernel_rfl) (by kernel_rfl) (by kernel_rfl) (fun _ _ _ h=>h) (by rfl) hHeld ?_ (fun v hSv=> ?_) ?_
 rotate_left 3
 focus (intro v hSv;go_simp;constructor<;>with_reducible rfl)
 focus (obtain ⟨c0,zs,hAv⟩:=hSv;exact count_calls _ v hAv)
 try simp only [PT]
 refine tz 6 rfl hHeld ?_
 try simp only [PT]
 refine tz 7 rfl hHeld ?_
 try simp only [PT]
 refine tz 8 rfl hHeld ?_
 try simp only [PT]
 refine take_no (i:=9) rfl (by kernel_rfl) (by kernel_rfl) (by kernel_rfl) (fun _ _ _ h=>h) (by rfl) hHeld ?_
 try simp only [PT]
 refine take_no (i:=10) rfl (by kernel_rfl) (by kernel_rfl) (by kernel_rfl) (fun _ _ _ h=>h) (by rfl) hHeld ?_
 try simp only [PT]
 refine take_no (i:=11) rfl (by kernel_rfl) (by kernel_rfl) (by kernel_rfl) (fun _ _ _ h=>h) (by rfl) hHeld ?_
 try simp only [PT]
 refine take_no (i:=12) rfl (by kernel_rfl) (by kernel_rfl) (by kernel_rfl) (fun _ _ _ h=>h) (by rfl) hHeld ?_
 try simp only [PT]
 refine take_no (i:=13) rfl (by kernel_rfl) (by kernel_rfl) (by kernel_rfl) (fun _ _ _ h=>h) (by rfl) hHeld ?_
 try simp only [PT]
 refine take_no (i:=14) rfl (by kernel_rfl) (by kernel_rfl) (by kernel_rfl) (fun _ _ _ h=>h) (by rfl) hHeld ?_
 try simp only [PT]
 refine take_no (i:=15) rfl (by kernel_rfl) (by kernel_rfl) (by kernel_rfl) (fun _ _ _ h=>h) (by rfl) hHeld ?_
 try simp only [PT]
 refine take_no (i:=16) rfl (by kernel_rfl) (by kernel_rfl) (by kernel_rfl) (fun _ _ _ h=>h) (by rfl) hHeld ?_
 try simp only [PT]
 refine tz 17 rfl hHeld ?_
 try simp only [PT]
 refine rd 18 rfl fun K hK=> ?_
 go_simp
 refine gen_app (K:=K) (fun D hV_D=> ?_)
 replace k0:=kK hV_D k0
 replace k1:=kK hV_D k1
 replace hB:Below w.heap.size w D:=nB hV_D
 replace hA:AP D ap s O:=nA hV_D
 have z_D:=zS hV_D
 clear hV_D c_k0 f_k0 c_k1 f_k1
 obtain ⟨c_k0,f_k0,l_k0_D⟩:=f3 k0
 obtain ⟨c_k1,f_k1,l_k1_D⟩:=f3 k1
 refine hK.out _ _ ⟨(fun o=>(c_k1 o).trans (v_k1 o).symm),(by omega),hA⟩ (fun hHeld=> ?_)
 clear hK K
 try simp only [PT]
 refine rd 19 rfl fun K hK=> ?_
 go_simp
 refine hK.out _ _ hHeld (fun hHeld=> ?_)
 clear hK K
 try simp only [PT]
 refine wpAnyH_done (by kernel_rfl) ?_ _
 refine NoPanic.normal ?_
 go_wp2_with fail
 refine bodyPost_ret (v:= .tuple #[(s.get h).val, .bool false]) (by simp [results,Tryz.results83,go_sem,Nd.val, *]) rfl ⟨rfl,hB⟩
set_option maxRecDepth 100000 in
set_option maxHeartbeats 800000 in
theorem bRow_t1 (h:Int) (h1:s.has h=true) (h2:0<s.cnt h) (h3:(s.get h).tag=1) (w:World) (hA:AP w ap s O):
  Calls Tryz.prog 83 #[ap, .int .i64 h] w fun e w'=>e= .returned (.tuple #[(s.get h).val, .bool true])∧Below w.heap.size w w':=by
 unfold Nd.val
 have d1:decide (0<s.cnt h)=true:=by simpa using h2
 have d2:((s.get h).tag==1)=true:=by simpa using h3
 clear h2 h3
 go_enter Tryz.func83,Tryz.ntmps83
 go_wp2_with fail
 refine calls_gen fun V hV_V=> ?_
 have n_k0:=hbk hV_V (w.heap.size)
 simp (maxDischargeDepth:=9) only [BK,not_false_eq_true,reduceCtorEq] at n_k0
 have o_k0: ¬O (w.heap.size):=by first|exact hA.new (Nat.le_refl _)|exact hA.new (by omega)
 have hB:Below w.heap.size w V:=nB hV_V
 replace hA:AP V ap s O:=nA hV_V
 have z_V:=zS hV_V
 clear hV_V
 have k0:=n_k0;clear n_k0
 obtain ⟨c_k0,f_k0,l_k0_V⟩:=f3 k0
 refine (aget_calls _ _ hA).mono ?_
 rintro e_w1 w1 ⟨rfl,hb_w1⟩
 replace hA:=hA.below hb_w1
 replace hB:=below_step hB hb_w1
 replace k0:=keep_blk hb_w1 k0
 have z_w1:=hb_w1.size
 clear hb_w1 c_k0 f_k0
 obtain ⟨c_k0,f_k0,l_k0_w1⟩:=f3 k0
 unfold Nd.val
 go_wp2_with fail
 refine wp_gen fun V1 hV_V1=> ?_
 have n_k1:=hbk hV_V1 (w1.heap.size)
 simp (maxDischargeDepth:=9) only [BK,not_false_eq_true,reduceCtorEq,k0,l_k0_V,l_k0_w1] at n_k1
 have o_k1: ¬O (w1.heap.size):=by first|exact hA.new (Nat.le_refl _)|exact hA.new (by omega)
 replace k0:=kK hV_V1 k0
 replace hB:Below w.heap.size w V1:=nB hV_V1
 replace hA:AP V1 ap s O:=nA hV_V1
 have z_V1:=zS hV_V1
 clear hV_V1 c_k0 f_k0
 obtain ⟨c_k0,f_k0,l_k0_V1⟩:=f3 k0
 have k1:=n_k1;clear n_k1
 obtain ⟨c_k1,f_k1,l_k1_V1⟩:=f3 k1
 refine wp_region_noPanic ?_
 refine wp_region_held_drew (S:=fun v=>(∀o,v.cell? ⟨w1.heap.size,o,none⟩=V1.cell? ⟨w1.heap.size,o,none⟩)∧(V1.heap.size≤v.heap.size)∧AP v ap s O) (by kernel_rfl) ⟨(fun _=>rfl),(Nat.le_refl _),hA.drew⟩ (fun hHeld=> ?_)
 generalize hV_V1d:V1.drew=V1d at hHeld⊢
 have d_k0:=dK hV_V1d k0
 have d_k1:=dK hV_V1d k1
 clear c_k0 f_k0 c_k1 f_k1
 replace hA:=hA.drew;rw [hV_V1d] at hA
 replace hB:=hB.drew;rw [hV_V1d] at hB
 have z_V1d:=dZ hV_V1d
 have v_k1:=cells_of k1
 clear k0;have k0:=d_k0;clear d_k0
 clear k1;have k1:=d_k1;clear d_k1
 obtain ⟨c_k0,f_k0,l_k0_V1d⟩:=f3 k0
 obtain ⟨c_k1,f_k1,l_k1_V1d⟩:=f3 k1
 clear hV_V1d
 refine tz 0 rfl hHeld ?_
 try simp only [PT]
 refine tz 1 rfl hHeld ?_
 try simp only [PT]
 refine tz 2 rfl hHeld ?_
 try simp only [PT]
 refine tz 3 rfl hHeld ?_
 try simp only [PT]
 refine tz 4 rfl hHeld ?_
 try simp only [PT]
 refine take_call (i:=5) (f:= ?_) (args:= ?_) (v:= ?_) rfl (by kernel_rfl) (by kernel_rfl) (by kernel_rfl) (fun _ _ _ h=>h) (by rfl) hHeld ?_ (fun v hSv=> ?_) ?_
 rotate_left 3
 focus (intro v hSv;go_simp;constructor<;>with_reducible rfl)
 focus (obtain ⟨c0,zs,hAv⟩:=hSv;exact count_calls _ v hAv)
 try simp only [PT]
 refine tz 6 rfl hHeld ?_
 try simp only [PT]
 refine tz 7 rfl hHeld ?_
 try simp only [PT]
 refine tz 8 rfl hHeld ?_
 try simp only [PT]
 refine tz 9 rfl hHeld ?_
 try simp only [PT]
 refine tz 10 rfl hHeld ?_
 try simp only [PT]
 refine tz 11 rfl hHeld ?_
 try simp only [PT]
 refine tz 12 rfl hHeld ?_
 try simp only [PT]
 refine take_no (i:=13) rfl (by kernel_rfl) (by kernel_rfl) (by kernel_rfl) (fun _ _ _ h=>h) (by rfl) hHeld ?_
 try simp only [PT]
 refine take_no (i:=14) rfl (by kernel_rfl) (by kernel_rfl) (by kernel_rfl) (fun _ _ _ h=>h) (by rfl) hHeld ?_
 try simp only [PT]
 refine take_no (i:=15) rfl (by kernel_rfl) (by kernel_rfl) (by kernel_rfl) (fun _ _ _ h=>h) (by rfl) hHeld ?_
 try simp only [PT]
 refine tz 16 rfl hHeld ?_
 try simp only [PT]
 refine tz 17 rfl hHeld ?_
 try simp only [PT]
 refine rd 18 rfl fun K hK=> ?_
 go_simp
 refine gen_app (K:=K) (fun D hV_D=> ?_)
 replace k0:=kK hV_D k0
 replace k1:=kK hV_D k1
 replace hB:Below w.heap.size w D:=nB hV_D
 replace hA:AP D ap s O:=nA hV_D
 have z_D:=zS hV_D
 clear hV_D c_k0 f_k0 c_k1 f_k1
 obtain ⟨c_k0,f_k0,l_k0_D⟩:=f3 k0
 obtain ⟨c_k1,f_k1,l_k1_D⟩:=f3 k1
 refine hK.out _ _ ⟨(fun o=>(c_k1 o).trans (v_k1 o).symm),(by omega),hA⟩ (fun hHeld=> ?_)
 clear hK K
 try simp only [PT]
 refine rd 19 rfl fun K hK=> ?_
 go_simp
 refine hK.out _ _ hHeld (fun hHeld=> ?_)
 clear hK K
 try simp only [PT]
 refine wpAnyH_done (by kernel_rfl) ?_ _
 refine NoPanic.normal ?_
 go_wp2_with fail
 refine bodyPost_ret (v:= .tuple #[(s.get h).val, .bool true]) (by simp [results,Tryz.results83,go_sem,Nd.val, *]) rfl ⟨rfl,hB⟩
set_option maxRecDepth 100000 in
set_option maxHeartbeats 800000 in
theorem bRow_t2 (h:Int) (h1:s.has h=true) (h2:0<s.cnt h) (h3:(s.get h).tag=2) (w:World) (hA:AP w ap s O):
  Calls Tryz.prog 83 #[ap, .int .i64 h] w fun e w'=>e= .returned (.tuple #[(s.get h).val, .bool true])∧Below w.heap.size w w':=by
 unfold Nd.val
 have d1:decide (0<s.cnt h)=true:=by simpa using h2
 have d2:((s.get h).tag==1)=false:=by simp [h3]
 have d3:((s.get h).tag==2)=true:=by simpa using h3
 clear h2 h3
 go_enter Tryz.func83,Tryz.ntmps83
 go_wp2_with fail
 refine calls_gen fun V hV_V=> ?_
 have n_k0:=hbk hV_V (w.heap.size)
 simp (maxDischargeDepth:=9) only [BK,not_false_eq_true,reduceCtorEq] at n_k0
 have o_k0: ¬O (w.heap.size):=by first|exact hA.new (Nat.le_refl _)|exact hA.new (by omega)
 have hB:Below w.heap.size w V:=nB hV_V
 replace hA:AP V ap s O:=nA hV_V
 have z_V:=zS hV_V
 clear hV_V
 have k0:=n_k0;clear n_k0
 obtain ⟨c_k0,f_k0,l_k0_V⟩:=f3 k0
 refine (aget_calls _ _ hA).mono ?_
 rintro e_w1 w1 ⟨rfl,hb_w1⟩
 replace hA:=hA.below hb_w1
 replace hB:=below_step hB hb_w1
 replace k0:=keep_blk hb_w1 k0
 have z_w1:=hb_w1.size
 clear hb_w1 c_k0 f_k0
 obtain ⟨c_k0,f_k0,l_k0_w1⟩:=f3 k0
 unfold Nd.val
 go_wp2_with fail
 refine wp_gen fun V1 hV_V1=> ?_
 have n_k1:=hbk hV_V1 (w1.heap.size)
 simp (maxDischargeDepth:=9) only [BK,not_false_eq_true,reduceCtorEq,k0,l_k0_V,l_k0_w1] at n_k1
 have o_k1: ¬O (w1.heap.size):=by first|exact hA.new (Nat.le_refl _)|exact hA.new (by omega)
 replace k0:=kK hV_V1 k0
 replace hB:Below w.heap.size w V1:=nB hV_V1
 replace hA:AP V1 ap s O:=nA hV_V1
 have z_V1:=zS hV_V1
 clear hV_V1 c_k0 f_k0
 obtain ⟨c_k0,f_k0,l_k0_V1⟩:=f3 k0
 have k1:=n_k1;clear n_k1
 obtain ⟨c_k1,f_k1,l_k1_V1⟩:=f3 k1
 refine wp_region_noPanic ?_
 refine wp_region_held_drew (S:=fun v=>(∀o,v.cell? ⟨w1.heap.size,o,none⟩=V1.cell? ⟨w1.heap.size,o,none⟩)∧(V1.heap.size≤v.heap.size)∧AP v ap s O) (by kernel_rfl) ⟨(fun _=>rfl),(Nat.le_refl _),hA.drew⟩ (fun hHeld=> ?_)
 generalize hV_V1d:V1.drew=V1d at hHeld⊢
 have d_k0:=dK hV_V1d k0
 have d_k1:=dK hV_V1d k1
 clear c_k0 f_k0 c_k1 f_k1
 replace hA:=hA.drew;rw [hV_V1d] at hA
 replace hB:=hB.drew;rw [hV_V1d] at hB
 have z_V1d:=dZ hV_V1d
 have v_k1:=cells_of k1
 clear k0;have k0:=d_k0;clear d_k0
 clear k1;have k1:=d_k1;clear d_k1
 obtain ⟨c_k0,f_k0,l_k0_V1d⟩:=f3 k0
 obtain ⟨c_k1,f_k1,l_k1_V1d⟩:=f3 k1
 clear hV_V1d
 refine tz 0 rfl hHeld ?_
 try simp only [PT]
 refine tz 1 rfl hHeld ?_
 try simp only [PT]
 refine tz 2 rfl hHeld ?_
 try simp only [PT]
 refine tz 3 rfl hHeld ?_
 try simp only [PT]
 refine tz 4 rfl hHeld ?_
 try simp only [PT]
 refine take_call (i:=5) (f:= ?_) (args:= ?_) (v:= ?_) rfl (by kernel_rfl) (by kernel_rfl) (by kernel_rfl) (fun _ _ _ h=>h) (by rfl) hHeld ?_ (fun v hSv=> ?_) ?_
 rotate_left 3
 focus (intro v hSv;go_simp;constructor<;>with_reducible rfl)
 focus (obtain ⟨c0,zs,hAv⟩:=hSv;exact count_calls _ v hAv)
 try simp only [PT]
 refine tz 6 rfl hHeld ?_
 try simp only [PT]
 refine tz 7 rfl hHeld ?_
 try simp only [PT]
 refine tz 8 rfl hHeld ?_
 try simp only [PT]
 refine tz 9 rfl hHeld ?_
 try simp only [PT]
 refine tz 10 rfl hHeld ?_
 try simp only [PT]
 refine tz 11 rfl hHeld ?_
 try simp only [PT]
 refine tz 12 rfl hHeld ?_
 try simp only [PT]
 refine tz 13 rfl hHeld ?_
 try simp only [PT]
 refine tz 14 rfl hHeld ?_
 try simp only [PT]
 refine tz 15 rfl hHeld ?_
 try simp only [PT]
 refine tz 16 rfl hHeld ?_
 try simp only [PT]
 refine tz 17 rfl hHeld ?_
 try simp only [PT]
 refine rd 18 rfl fun K hK=> ?_
 go_simp
 refine gen_app (K:=K) (fun D hV_D=> ?_)
 replace k0:=kK hV_D k0
 replace k1:=kK hV_D k1
 replace hB:Below w.heap.size w D:=nB hV_D
 replace hA:AP D ap s O:=nA hV_D
 have z_D:=zS hV_D
 clear hV_D c_k0 f_k0 c_k1 f_k1
 obtain ⟨c_k0,f_k0,l_k0_D⟩:=f3 k0
 obtain ⟨c_k1,f_k1,l_k1_D⟩:=f3 k1
 refine hK.out _ _ ⟨(fun o=>(c_k1 o).trans (v_k1 o).symm),(by omega),hA⟩ (fun hHeld=> ?_)
 clear hK K
 try simp only [PT]
 refine rd 19 rfl fun K hK=> ?_
 go_simp
 refine hK.out _ _ hHeld (fun hHeld=> ?_)
 clear hK K
 try simp only [PT]
 refine wpAnyH_done (by kernel_rfl) ?_ _
 refine NoPanic.normal ?_
 go_wp2_with fail
 refine bodyPost_ret (v:= .tuple #[(s.get h).val, .bool true]) (by simp [results,Tryz.results83,go_sem,Nd.val, *]) rfl ⟨rfl,hB⟩
set_option maxRecDepth 100000 in
set_option maxHeartbeats 800000 in
theorem bRow_t3 (h:Int) (h1:s.has h=true) (h2:0<s.cnt h) (h3:(s.get h).tag≠1) (h4:(s.get h).tag≠2) (w:World) (hA:AP w ap s O):
  Calls Tryz.prog 83 #[ap, .int .i64 h] w fun e w'=>e= .returned (.tuple #[(s.get h).val, .bool false])∧Below w.heap.size w w':=by
 unfold Nd.val
 have d1:decide (0<s.cnt h)=true:=by simpa using h2
 have d2:((s.get h).tag==1)=false:=by simpa using h3
 have d3:((s.get h).tag==2)=false:=by simpa using h4
 clear h2 h3 h4
 go_enter Tryz.func83,Tryz.ntmps83
 go_wp2_with fail
 refine calls_gen fun V hV_V=> ?_
 have n_k0:=hbk hV_V (w.heap.size)
 simp (maxDischargeDepth:=9) only [BK,not_false_eq_true,reduceCtorEq] at n_k0
 have o_k0: ¬O (w.heap.size):=by first|exact hA.new (Nat.le_refl _)|exact hA.new (by omega)
 have hB:Below w.heap.size w V:=nB hV_V
 replace hA:AP V ap s O:=nA hV_V
 have z_V:=zS hV_V
 clear hV_V
 have k0:=n_k0;clear n_k0
 obtain ⟨c_k0,f_k0,l_k0_V⟩:=f3 k0
 refine (aget_calls _ _ hA).mono ?_
 rintro e_w1 w1 ⟨rfl,hb_w1⟩
 replace hA:=hA.below hb_w1
 replace hB:=below_step hB hb_w1
 replace k0:=keep_blk hb_w1 k0
 have z_w1:=hb_w1.size
 clear hb_w1 c_k0 f_k0
 obtain ⟨c_k0,f_k0,l_k0_w1⟩:=f3 k0
 unfold Nd.val
 go_wp2_with fail
 refine wp_gen fun V1 hV_V1=> ?_
 have n_k1:=hbk hV_V1 (w1.heap.size)
 simp (maxDischargeDepth:=9) only [BK,not_false_eq_true,reduceCtorEq,k0,l_k0_V,l_k0_w1] at n_k1
 have o_k1: ¬O (w1.heap.size):=by first|exact hA.new (Nat.le_refl _)|exact hA.new (by omega)
 replace k0:=kK hV_V1 k0
 replace hB:Below w.heap.size w V1:=nB hV_V1
 replace hA:AP V1 ap s O:=nA hV_V1
 have z_V1:=zS hV_V1
 clear hV_V1 c_k0 f_k0
 obtain ⟨c_k0,f_k0,l_k0_V1⟩:=f3 k0
 have k1:=n_k1;clear n_k1
 obtain ⟨c_k1,f_k1,l_k1_V1⟩:=f3 k1
 refine wp_region_noPanic ?_
 refine wp_region_held_drew (S:=fun v=>(∀o,v.cell? ⟨w1.heap.size,o,none⟩=V1.cell? ⟨w1.heap.size,o,none⟩)∧(V1.heap.size≤v.heap.size)∧AP v ap s O) (by kernel_rfl) ⟨(fun _=>rfl),(Nat.le_refl _),hA.drew⟩ (fun hHeld=> ?_)
 generalize hV_V1d:V1.drew=V1d at hHeld⊢
 have d_k0:=dK hV_V1d k0
 have d_k1:=dK hV_V1d k1
 clear c_k0 f_k0 c_k1 f_k1
 replace hA:=hA.drew;rw [hV_V1d] at hA
 replace hB:=hB.drew;rw [hV_V1d] at hB
 have z_V1d:=dZ hV_V1d
 have v_k1:=cells_of k1
 clear k0;have k0:=d_k0;clear d_k0
 clear k1;have k1:=d_k1;clear d_k1
 obtain ⟨c_k0,f_k0,l_k0_V1d⟩:=f3 k0
 obtain ⟨c_k1,f_k1,l_k1_V1d⟩:=f3 k1
 clear hV_V1d
 refine tz 0 rfl hHeld ?_
 try simp only [PT]
 refine tz 1 rfl hHeld ?_
 try simp only [PT]
 refine tz 2 rfl hHeld ?_
 try simp only [PT]
 refine tz 3 rfl hHeld ?_
 try simp only [PT]
 refine tz 4 rfl hHeld ?_
 try simp only [PT]
 refine take_call (i:=5) (f:= ?_) (args:= ?_) (v:= ?_) rfl (by kernel_rfl) (by kernel_rfl) (by kernel_rfl) (fun _ _ _ h=>h) (by rfl) hHeld ?_ (fun v hSv=> ?_) ?_
 rotate_left 3
 focus (intro v hSv;go_simp;constructor<;>with_reducible rfl)
 focus (obtain ⟨c0,zs,hAv⟩:=hSv;exact count_calls _ v hAv)
 try simp only [PT]
 refine tz 6 rfl hHeld ?_
 try simp only [PT]
 refine tz 7 rfl hHeld ?_
 try simp only [PT]
 refine tz 8 rfl hHeld ?_
 try simp only [PT]
 refine tz 9 rfl hHeld ?_
 try simp only [PT]
 refine tz 10 rfl hHeld ?_
 try simp only [PT]
 refine tz 11 rfl hHeld ?_
 try simp only [PT]
 refine tz 12 rfl hHeld ?_
 try simp only [PT]
 refine tz 13 rfl hHeld ?_
 try simp only [PT]
 refine tz 14 rfl hHeld ?_
 try simp only [PT]
 refine tz 15 rfl hHeld ?_
 try simp only [PT]
 refine tz 16 rfl hHeld ?_
 try simp only [PT]
 refine tz 17 rfl hHeld ?_
 try simp only [PT]
 refine rd 18 rfl fun K hK=> ?_
 go_simp
 refine gen_app (K:=K) (fun D hV_D=> ?_)
 replace k0:=kK hV_D k0
 replace k1:=kK hV_D k1
 replace hB:Below w.heap.size w D:=nB hV_D
 replace hA:AP D ap s O:=nA hV_D
 have z_D:=zS hV_D
 clear hV_D c_k0 f_k0 c_k1 f_k1
 obtain ⟨c_k0,f_k0,l_k0_D⟩:=f3 k0
 obtain ⟨c_k1,f_k1,l_k1_D⟩:=f3 k1
 refine hK.out _ _ ⟨(fun o=>(c_k1 o).trans (v_k1 o).symm),(by omega),hA⟩ (fun hHeld=> ?_)
 clear hK K
 try simp only [PT]
 refine rd 19 rfl fun K hK=> ?_
 go_simp
 refine hK.out _ _ hHeld (fun hHeld=> ?_)
 clear hK K
 try simp only [PT]
 refine wpAnyH_done (by kernel_rfl) ?_ _
 refine NoPanic.normal ?_
 go_wp2_with fail
 refine bodyPost_ret (v:= .tuple #[(s.get h).val, .bool false]) (by simp [results,Tryz.results83,go_sem,Nd.val, *]) rfl ⟨rfl,hB⟩
theorem bRow_calls (h:Int) (w:World) (hA:AP w ap s O):
  Calls Tryz.prog 83 #[ap, .int .i64 h] w fun e w'=>e= .returned (.tuple #[(s.get h).val, .bool (bIs s h)])∧Below w.heap.size w w':=by
 cases h1:s.has h with
 | false=>unfold bIs;rw [h1];exact bRow_no h h1 w hA
 | true=>
  by_cases h2:0<s.cnt h
  ·
   by_cases h3:(s.get h).tag=1
   ·
    have e:bIs s h=true:=by unfold bIs;rw [h1];simp [h2,h3]
    rw [e];exact bRow_t1 h h1 h2 h3 w hA
   ·
    by_cases h4:(s.get h).tag=2
    ·
     have e:bIs s h=true:=by unfold bIs;rw [h1];simp [h2,h4]
     rw [e];exact bRow_t2 h h1 h2 h4 w hA
    ·
     have e:bIs s h=false:=by unfold bIs;rw [h1];simp [h3,h4]
     rw [e];exact bRow_t3 h h1 h2 h3 h4 w hA
  ·
   have e:bIs s h=false:=by unfold bIs;rw [h1];simp [h2]
   rw [e];exact bRow_dead h h1 h2 w hA
set_option maxRecDepth 100000 in
set_option maxHeartbeats 800000 in
theorem lRow_no (h:Int) (h1:s.has h=false) (w:World) (hA:AP w ap s O):
  Calls Tryz.prog 86 #[ap, .int .i64 h] w fun e w'=>e= .returned (.tuple #[(s.get h).val, .bool false])∧Below w.heap.size w w':=by
 unfold Nd.val
 go_enter Tryz.func86,Tryz.ntmps86
 go_wp2_with fail
 refine calls_gen fun V hV_V=> ?_
 have n_k0:=hbk hV_V (w.heap.size)
 simp (maxDischargeDepth:=9) only [BK,not_false_eq_true,reduceCtorEq] at n_k0
 have o_k0: ¬O (w.heap.size):=by first|exact hA.new (Nat.le_refl _)|exact hA.new (by omega)
 have hB:Below w.heap.size w V:=nB hV_V
 replace hA:AP V ap s O:=nA hV_V
 have z_V:=zS hV_V
 clear hV_V
 have k0:=n_k0;clear n_k0
 obtain ⟨c_k0,f_k0,l_k0_V⟩:=f3 k0
 refine (aget_calls _ _ hA).mono ?_
 rintro e_w1 w1 ⟨rfl,hb_w1⟩
 replace hA:=hA.below hb_w1
 replace hB:=below_step hB hb_w1
 replace k0:=keep_blk hb_w1 k0
 have z_w1:=hb_w1.size
 clear hb_w1 c_k0 f_k0
 obtain ⟨c_k0,f_k0,l_k0_w1⟩:=f3 k0
 unfold Nd.val
 go_wp2_with fail
 refine wp_gen fun V1 hV_V1=> ?_
 have n_k1:=hbk hV_V1 (w1.heap.size)
 simp (maxDischargeDepth:=9) only [BK,not_false_eq_true,reduceCtorEq,k0,l_k0_V,l_k0_w1] at n_k1
 have o_k1: ¬O (w1.heap.size):=by first|exact hA.new (Nat.le_refl _)|exact hA.new (by omega)
 replace k0:=kK hV_V1 k0
 replace hB:Below w.heap.size w V1:=nB hV_V1
 replace hA:AP V1 ap s O:=nA hV_V1
 have z_V1:=zS hV_V1
 clear hV_V1 c_k0 f_k0
 obtain ⟨c_k0,f_k0,l_k0_V1⟩:=f3 k0
 have k1:=n_k1;clear n_k1
 obtain ⟨c_k1,f_k1,l_k1_V1⟩:=f3 k1
 refine wp_region_noPanic ?_
 refine wp_region_held_drew (S:=fun v=>(∀o,v.cell? ⟨w1.heap.size,o,none⟩=V1.cell? ⟨w1.heap.size,o,none⟩)∧(V1.heap.size≤v.heap.size)∧AP v ap s O) (by kernel_rfl) ⟨(fun _=>rfl),(Nat.le_refl _),hA.drew⟩ (fun hHeld=> ?_)
 generalize hV_V1d:V1.drew=V1d at hHeld⊢
 have d_k0:=dK hV_V1d k0
 have d_k1:=dK hV_V1d k1
 clear c_k0 f_k0 c_k1 f_k1
 replace hA:=hA.drew;rw [hV_V1d] at hA
 replace hB:=hB.drew;rw [hV_V1d] at hB
 have z_V1d:=dZ hV_V1d
 have v_k1:=cells_of k1
 clear k0;have k0:=d_k0;clear d_k0
 clear k1;have k1:=d_k1;clear d_k1
 obtain ⟨c_k0,f_k0,l_k0_V1d⟩:=f3 k0
 obtain ⟨c_k1,f_k1,l_k1_V1d⟩:=f3 k1
 clear hV_V1d
 refine tz 0 rfl hHeld ?_
 try simp only [PT]
 refine tz 1 rfl hHeld ?_
 try simp only [PT]
 refine tz 2 rfl hHeld ?_
 try simp only [PT]
 refine take_no (i:=3) rfl (by kernel_rfl) (by kernel_rfl) (by kernel_rfl) (fun _ _ _ h=>h) (by rfl) hHeld ?_
 try simp only [PT]
 refine take_no (i:=4) rfl (by kernel_rfl) (by kernel_rfl) (by kernel_rfl) (fun _ _ _ h=>h) (by rfl) hHeld ?_
 try simp only [PT]
 refine take_no (i:=5) rfl (by kernel_rfl) (by kernel_rfl) (by kernel_rfl) (fun _ _ _ h=>h) (by rfl) hHeld ?_
 try simp only [PT]
 refine take_no (i:=6) rfl (by kernel_rfl) (by kernel_rfl) (by kernel_rfl) (fun _ _ _ h=>h) (by rfl) hHeld ?_
 try simp only [PT]
 refine tz 7 rfl hHeld ?_
 try simp only [PT]
 refine tz 8 rfl hHeld ?_
 try simp only [PT]
 refine take_no (i:=9) rfl (by kernel_rfl) (by kernel_rfl) (by kernel_rfl) (fun _ _ _ h=>h) (by rfl) hHeld ?_
 try simp only [PT]
 refine take_no (i:=10) rfl (by kernel_rfl) (by kernel_rfl) (by kernel_rfl) (fun _ _ _ h=>h) (by rfl) hHeld ?_
 try simp only [PT]
 refine take_no (i:=11) rfl (by kernel_rfl) (by kernel_rfl) (by kernel_rfl) (fun _ _ _ h=>h) (by rfl) hHeld ?_
 try simp only [PT]
 refine take_no (i:=12) rfl (by kernel_rfl) (by kernel_rfl) (by kernel_rfl) (fun _ _ _ h=>h) (by rfl) hHeld ?_
 try simp only [PT]
 refine take_no (i:=13) rfl (by kernel_rfl) (by kernel_rfl) (by kernel_rfl) (fun _ _ _ h=>h) (by rfl) hHeld ?_
 try simp only [PT]
 refine take_no (i:=14) rfl (by kernel_rfl) (by kernel_rfl) (by kernel_rfl) (fun _ _ _ h=>h) (by rfl) hHeld ?_
 try simp only [PT]
 refine take_no (i:=15) rfl (by kernel_rfl) (by kernel_rfl) (by kernel_rfl) (fun _ _ _ h=>h) (by rfl) hHeld ?_
 try simp only [PT]
 refine take_no (i:=16) rfl (by kernel_rfl) (by kernel_rfl) (by kernel_rfl) (fun _ _ _ h=>h) (by rfl) hHeld ?_
 try simp only [PT]
 refine tz 17 rfl hHeld ?_
 try simp only [PT]
 refine rd 18 rfl fun K hK=> ?_
 go_simp
 refine gen_app (K:=K) (fun D hV_D=> ?_)
 replace k0:=kK hV_D k0
 replace k1:=kK hV_D k1
 replace hB:Below w.heap.size w D:=nB hV_D
 replace hA:AP D ap s O:=nA hV_D
 have z_D:=zS hV_D
 clear hV_D c_k0 f_k0 c_k1 f_k1
 obtain ⟨c_k0,f_k0,l_k0_D⟩:=f3 k0
 obtain ⟨c_k1,f_k1,l_k1_D⟩:=f3 k1
 refine hK.out _ _ ⟨(fun o=>(c_k1 o).trans (v_k1 o).symm),(by omega),hA⟩ (fun hHeld=> ?_)
 clear hK K
 try simp only [PT]
 refine rd 19 rfl fun K hK=> ?_
 go_simp
 refine hK.out _ _ hHeld (fun hHeld=> ?_)
 clear hK K
 try simp only [PT]
 refine wpAnyH_done (by kernel_rfl) ?_ _
 refine NoPanic.normal ?_
 go_wp2_with fail
 refine bodyPost_ret (v:= .tuple #[(s.get h).val, .bool false]) (by simp [results,Tryz.results86,go_sem,Nd.val, *]) rfl ⟨rfl,hB⟩
set_option maxRecDepth 100000 in
set_option maxHeartbeats 800000 in
theorem lRow_dead (h:Int) (h1:s.has h=true) (h2: ¬0<s.cnt h) (w:World) (hA:AP w ap s O):
  Calls Tryz.prog 86 #[ap, .int .i64 h] w fun e w'=>e= .returned (.tuple #[(s.get h).val, .bool false])∧Below w.heap.size w w':=by
 unfold Nd.val
 have d1:decide (0<s.cnt h)=false:=by simpa using h2
 clear h2
 go_enter Tryz.func86,Tryz.ntmps86
 go_wp2_with fail
 refine calls_gen fun V hV_V=> ?_
 have n_k0:=hbk hV_V (w.heap.size)
 simp (maxDischargeDepth:=9) only [BK,not_false_eq_true,reduceCtorEq] at n_k0
 have o_k0: ¬O (w.heap.size):=by first|exact hA.new (Nat.le_refl _)|exact hA.new (by omega)
 have hB:Below w.heap.size w V:=nB hV_V
 replace hA:AP V ap s O:=nA hV_V
 have z_V:=zS hV_V
 clear hV_V
 have k0:=n_k0;clear n_k0
 obtain ⟨c_k0,f_k0,l_k0_V⟩:=f3 k0
 refine (aget_calls _ _ hA).mono ?_
 rintro e_w1 w1 ⟨rfl,hb_w1⟩
 replace hA:=hA.below hb_w1
 replace hB:=below_step hB hb_w1
 replace k0:=keep_blk hb_w1 k0
 have z_w1:=hb_w1.size
 clear hb_w1 c_k0 f_k0
 obtain ⟨c_k0,f_k0,l_k0_w1⟩:=f3 k0
 unfold Nd.val
 go_wp2_with fail
 refine wp_gen fun V1 hV_V1=> ?_
 have n_k1:=hbk hV_V1 (w1.heap.size)
 simp (maxDischargeDepth:=9) only [BK,not_false_eq_true,reduceCtorEq,k0,l_k0_V,l_k0_w1] at n_k1
 have o_k1: ¬O (w1.heap.size):=by first|exact hA.new (Nat.le_refl _)|exact hA.new (by omega)
 replace k0:=kK hV_V1 k0
 replace hB:Below w.heap.size w V1:=nB hV_V1
 replace hA:AP V1 ap s O:=nA hV_V1
 have z_V1:=zS hV_V1
 clear hV_V1 c_k0 f_k0
 obtain ⟨c_k0,f_k0,l_k0_V1⟩:=f3 k0
 have k1:=n_k1;clear n_k1
 obtain ⟨c_k1,f_k1,l_k1_V1⟩:=f3 k1
 refine wp_region_noPanic ?_
 refine wp_region_held_drew (S:=fun v=>(∀o,v.cell? ⟨w1.heap.size,o,none⟩=V1.cell? ⟨w1.heap.size,o,none⟩)∧(V1.heap.size≤v.heap.size)∧AP v ap s O) (by kernel_rfl) ⟨(fun _=>rfl),(Nat.le_refl _),hA.drew⟩ (fun hHeld=> ?_)
 generalize hV_V1d:V1.drew=V1d at hHeld⊢
 have d_k0:=dK hV_V1d k0
 have d_k1:=dK hV_V1d k1
 clear c_k0 f_k0 c_k1 f_k1
 replace hA:=hA.drew;rw [hV_V1d] at hA
 replace hB:=hB.drew;rw [hV_V1d] at hB
 have z_V1d:=dZ hV_V1d
 have v_k1:=cells_of k1
 clear k0;have k0:=d_k0;clear d_k0
 clear k1;have k1:=d_k1;clear d_k1
 obtain ⟨c_k0,f_k0,l_k0_V1d⟩:=f3 k0
 obtain ⟨c_k1,f_k1,l_k1_V1d⟩:=f3 k1
 clear hV_V1d
 refine tz 0 rfl hHeld ?_
 try simp only [PT]
 refine tz 1 rfl hHeld ?_
 try simp only [PT]
 refine tz 2 rfl hHeld ?_
 try simp only [PT]
 refine tz 3 rfl hHeld ?_
 try simp only [PT]
 refine tz 4 rfl hHeld ?_
 try simp only [PT]
 refine take_call (i:=5) (f:= ?_) (args:= ?_) (v:= ?_) rfl (by kernel_rfl) (by kernel_rfl) (by kernel_rfl) (fun _ _ _ h=>h) (by rfl) hHeld ?_ (fun v hSv=> ?_) ?_
 rotate_left 3
 focus (intro v hSv;go_simp;constructor<;>with_reducible rfl)
 focus (obtain ⟨c0,zs,hAv⟩:=hSv;exact count_calls _ v hAv)
 try simp only [PT]
 refine tz 6 rfl hHeld ?_
 try simp only [PT]
 refine tz 7 rfl hHeld ?_
 try simp only [PT]
 refine tz 8 rfl hHeld ?_
 try simp only [PT]
 refine take_no (i:=9) rfl (by kernel_rfl) (by kernel_rfl) (by kernel_rfl) (fun _ _ _ h=>h) (by rfl) hHeld ?_
 try simp only [PT]
 refine take_no (i:=10) rfl (by kernel_rfl) (by kernel_rfl) (by kernel_rfl) (fun _ _ _ h=>h) (by rfl) hHeld ?_
 try simp only [PT]
 refine take_no (i:=11) rfl (by kernel_rfl) (by kernel_rfl) (by kernel_rfl) (fun _ _ _ h=>h) (by rfl) hHeld ?_
 try simp only [PT]
 refine take_no (i:=12) rfl (by kernel_rfl) (by kernel_rfl) (by kernel_rfl) (fun _ _ _ h=>h) (by rfl) hHeld ?_
 try simp only [PT]
 refine take_no (i:=13) rfl (by kernel_rfl) (by kernel_rfl) (by kernel_rfl) (fun _ _ _ h=>h) (by rfl) hHeld ?_
 try simp only [PT]
 refine take_no (i:=14) rfl (by kernel_rfl) (by kernel_rfl) (by kernel_rfl) (fun _ _ _ h=>h) (by rfl) hHeld ?_
 try simp only [PT]
 refine take_no (i:=15) rfl (by kernel_rfl) (by kernel_rfl) (by kernel_rfl) (fun _ _ _ h=>h) (by rfl) hHeld ?_
 try simp only [PT]
 refine take_no (i:=16) rfl (by kernel_rfl) (by kernel_rfl) (by kernel_rfl) (fun _ _ _ h=>h) (by rfl) hHeld ?_
 try simp only [PT]
 refine tz 17 rfl hHeld ?_
 try simp only [PT]
 refine rd 18 rfl fun K hK=> ?_
 go_simp
 refine gen_app (K:=K) (fun D hV_D=> ?_)
 replace k0:=kK hV_D k0
 replace k1:=kK hV_D k1
 replace hB:Below w.heap.size w D:=nB hV_D
 replace hA:AP D ap s O:=nA hV_D
 have z_D:=zS hV_D
 clear hV_D c_k0 f_k0 c_k1 f_k1
 obtain ⟨c_k0,f_k0,l_k0_D⟩:=f3 k0
 obtain ⟨c_k1,f_k1,l_k1_D⟩:=f3 k1
 refine hK.out _ _ ⟨(fun o=>(c_k1 o).trans (v_k1 o).symm),(by omega),hA⟩ (fun hHeld=> ?_)
 clear hK K
 try simp only [PT]
 refine rd 19 rfl fun K hK=> ?_
 go_simp
 refine hK.out _ _ hHeld (fun hHeld=> ?_)
 clear hK K
 try simp only [PT]
 refine wpAnyH_done (by kernel_rfl) ?_ _
 refine NoPanic.normal ?_
 go_wp2_with fail
 refine bodyPost_ret (v:= .tuple #[(s.get h).val, .bool false]) (by simp [results,Tryz.results86,go_sem,Nd.val, *]) rfl ⟨rfl,hB⟩
set_option maxRecDepth 100000 in
set_option maxHeartbeats 800000 in
theorem lRow_t1 (h:Int) (h1:s.has h=true) (h2:0<s.cnt h) (h3:(s.get h).tag=4) (w:World) (hA:AP w ap s O):
  Calls Tryz.prog 86 #[ap, .int .i64 h] w fun e w'=>e= .returned (.tuple #[(s.get h).val, .bool true])∧Below w.heap.size w w':=by
 unfold Nd.val
 have d1:decide (0<s.cnt h)=true:=by simpa using h2
 have d2:((s.get h).tag==4)=true:=by simpa using h3
 clear h2 h3
 go_enter Tryz.func86,Tryz.ntmps86
 go_wp2_with fail
 refine calls_gen fun V hV_V=> ?_
 have n_k0:=hbk hV_V (w.heap.size)
 simp (maxDischargeDepth:=9) only [BK,not_false_eq_true,reduceCtorEq] at n_k0
 have o_k0: ¬O (w.heap.size):=by first|exact hA.new (Nat.le_refl _)|exact hA.new (by omega)
 have hB:Below w.heap.size w V:=nB hV_V
 replace hA:AP V ap s O:=nA hV_V
 have z_V:=zS hV_V
 clear hV_V
 have k0:=n_k0;clear n_k0
 obtain ⟨c_k0,f_k0,l_k0_V⟩:=f3 k0
 refine (aget_calls _ _ hA).mono ?_
 rintro e_w1 w1 ⟨rfl,hb_w1⟩
 replace hA:=hA.below hb_w1
 replace hB:=below_step hB hb_w1
 replace k0:=keep_blk hb_w1 k0
 have z_w1:=hb_w1.size
 clear hb_w1 c_k0 f_k0
 obtain ⟨c_k0,f_k0,l_k0_w1⟩:=f3 k0
 unfold Nd.val
 go_wp2_with fail
 refine wp_gen fun V1 hV_V1=> ?_
 have n_k1:=hbk hV_V1 (w1.heap.size)
 simp (maxDischargeDepth:=9) only [BK,not_false_eq_true,reduceCtorEq,k0,l_k0_V,l_k0_w1] at n_k1
 have o_k1: ¬O (w1.heap.size):=by first|exact hA.new (Nat.le_refl _)|exact hA.new (by omega)
 replace k0:=kK hV_V1 k0
 replace hB:Below w.heap.size w V1:=nB hV_V1
 replace hA:AP V1 ap s O:=nA hV_V1
 have z_V1:=zS hV_V1
 clear hV_V1 c_k0 f_k0
 obtain ⟨c_k0,f_k0,l_k0_V1⟩:=f3 k0
 have k1:=n_k1;clear n_k1
 obtain ⟨c_k1,f_k1,l_k1_V1⟩:=f3 k1
 refine wp_region_noPanic ?_
 refine wp_region_held_drew (S:=fun v=>(∀o,v.cell? ⟨w1.heap.size,o,none⟩=V1.cell? ⟨w1.heap.size,o,none⟩)∧(V1.heap.size≤v.heap.size)∧AP v ap s O) (by kernel_rfl) ⟨(fun _=>rfl),(Nat.le_refl _),hA.drew⟩ (fun hHeld=> ?_)
 generalize hV_V1d:V1.drew=V1d at hHeld⊢
 have d_k0:=dK hV_V1d k0
 have d_k1:=dK hV_V1d k1
 clear c_k0 f_k0 c_k1 f_k1
 replace hA:=hA.drew;rw [hV_V1d] at hA
 replace hB:=hB.drew;rw [hV_V1d] at hB
 have z_V1d:=dZ hV_V1d
 have v_k1:=cells_of k1
 clear k0;have k0:=d_k0;clear d_k0
 clear k1;have k1:=d_k1;clear d_k1
 obtain ⟨c_k0,f_k0,l_k0_V1d⟩:=f3 k0
 obtain ⟨c_k1,f_k1,l_k1_V1d⟩:=f3 k1
 clear hV_V1d
 refine tz 0 rfl hHeld ?_
 try simp only [PT]
 refine tz 1 rfl hHeld ?_
 try simp only [PT]
 refine tz 2 rfl hHeld ?_
 try simp only [PT]
 refine tz 3 rfl hHeld ?_
 try simp only [PT]
 refine tz 4 rfl hHeld ?_
 try simp only [PT]
 refine take_call (i:=5) (f:= ?_) (args:= ?_) (v:= ?_) rfl (by kernel_rfl) (by kernel_rfl) (by kernel_rfl) (fun _ _ _ h=>h) (by rfl) hHeld ?_ (fun v hSv=> ?_) ?_
 rotate_left 3
 focus (intro v hSv;go_simp;constructor<;>with_reducible rfl)
 focus (obtain ⟨c0,zs,hAv⟩:=hSv;exact count_calls _ v hAv)
 try simp only [PT]
 refine tz 6 rfl hHeld ?_
 try simp only [PT]
 refine tz 7 rfl hHeld ?_
 try simp only [PT]
 refine tz 8 rfl hHeld ?_
 try simp only [PT]
 refine tz 9 rfl hHeld ?_
 try simp only [PT]
 refine tz 10 rfl hHeld ?_
 try simp only [PT]
 refine tz 11 rfl hHeld ?_
 try simp only [PT]
 refine tz 12 rfl hHeld ?_
 try simp only [PT]
 refine take_no (i:=13) rfl (by kernel_rfl) (by kernel_rfl) (by kernel_rfl) (fun _ _ _ h=>h) (by rfl) hHeld ?_
 try simp only [PT]
 refine take_no (i:=14) rfl (by kernel_rfl) (by kernel_rfl) (by kernel_rfl) (fun _ _ _ h=>h) (by rfl) hHeld ?_
 try simp only [PT]
 refine take_no (i:=15) rfl (by kernel_rfl) (by kernel_rfl) (by kernel_rfl) (fun _ _ _ h=>h) (by rfl) hHeld ?_
 try simp only [PT]
 refine tz 16 rfl hHeld ?_
 try simp only [PT]
 refine tz 17 rfl hHeld ?_
 try simp only [PT]
 refine rd 18 rfl fun K hK=> ?_
 go_simp
 refine gen_app (K:=K) (fun D hV_D=> ?_)
 replace k0:=kK hV_D k0
 replace k1:=kK hV_D k1
 replace hB:Below w.heap.size w D:=nB hV_D
 replace hA:AP D ap s O:=nA hV_D
 have z_D:=zS hV_D
 clear hV_D c_k0 f_k0 c_k1 f_k1
 obtain ⟨c_k0,f_k0,l_k0_D⟩:=f3 k0
 obtain ⟨c_k1,f_k1,l_k1_D⟩:=f3 k1
 refine hK.out _ _ ⟨(fun o=>(c_k1 o).trans (v_k1 o).symm),(by omega),hA⟩ (fun hHeld=> ?_)
 clear hK K
 try simp only [PT]
 refine rd 19 rfl fun K hK=> ?_
 go_simp
 refine hK.out _ _ hHeld (fun hHeld=> ?_)
 clear hK K
 try simp only [PT]
 refine wpAnyH_done (by kernel_rfl) ?_ _
 refine NoPanic.normal ?_
 go_wp2_with fail
 refine bodyPost_ret (v:= .tuple #[(s.get h).val, .bool true]) (by simp [results,Tryz.results86,go_sem,Nd.val, *]) rfl ⟨rfl,hB⟩
set_option maxRecDepth 100000 in
set_option maxHeartbeats 800000 in
theorem lRow_t2 (h:Int) (h1:s.has h=true) (h2:0<s.cnt h) (h3:(s.get h).tag=5) (w:World) (hA:AP w ap s O):
  Calls Tryz.prog 86 #[ap, .int .i64 h] w fun e w'=>e= .returned (.tuple #[(s.get h).val, .bool true])∧Below w.heap.size w w':=by
 unfold Nd.val
 have d1:decide (0<s.cnt h)=true:=by simpa using h2
 have d2:((s.get h).tag==4)=false:=by simp [h3]
 have d3:((s.get h).tag==5)=true:=by simpa using h3
 clear h2 h3
 go_enter Tryz.func86,Tryz.ntmps86
 go_wp2_with fail
 refine calls_gen fun V hV_V=> ?_
 have n_k0:=hbk hV_V (w.heap.size)
 simp (maxDischargeDepth:=9) only [BK,not_false_eq_true,reduceCtorEq] at n_k0
 have o_k0: ¬O (w.heap.size):=by first|exact hA.new (Nat.le_refl _)|exact hA.new (by omega)
 have hB:Below w.heap.size w V:=nB hV_V
 replace hA:AP V ap s O:=nA hV_V
 have z_V:=zS hV_V
 clear hV_V
 have k0:=n_k0;clear n_k0
 obtain ⟨c_k0,f_k0,l_k0_V⟩:=f3 k0
 refine (aget_calls _ _ hA).mono ?_
 rintro e_w1 w1 ⟨rfl,hb_w1⟩
 replace hA:=hA.below hb_w1
 replace hB:=below_step hB hb_w1
 replace k0:=keep_blk hb_w1 k0
 have z_w1:=hb_w1.size
 clear hb_w1 c_k0 f_k0
 obtain ⟨c_k0,f_k0,l_k0_w1⟩:=f3 k0
 unfold Nd.val
 go_wp2_with fail
 refine wp_gen fun V1 hV_V1=> ?_
 have n_k1:=hbk hV_V1 (w1.heap.size)
 simp (maxDischargeDepth:=9) only [BK,not_false_eq_true,reduceCtorEq,k0,l_k0_V,l_k0_w1] at n_k1
 have o_k1: ¬O (w1.heap.size):=by first|exact hA.new (Nat.le_refl _)|exact hA.new (by omega)
 replace k0:=kK hV_V1 k0
 replace hB:Below w.heap.size w V1:=nB hV_V1
 replace hA:AP V1 ap s O:=nA hV_V1
 have z_V1:=zS hV_V1
 clear hV_V1 c_k0 f_k0
 obtain ⟨c_k0,f_k0,l_k0_V1⟩:=f3 k0
 have k1:=n_k1;clear n_k1
 obtain ⟨c_k1,f_k1,l_k1_V1⟩:=f3 k1
 refine wp_region_noPanic ?_
 refine wp_region_held_drew (S:=fun v=>(∀o,v.cell? ⟨w1.heap.size,o,none⟩=V1.cell? ⟨w1.heap.size,o,none⟩)∧(V1.heap.size≤v.heap.size)∧AP v ap s O) (by kernel_rfl) ⟨(fun _=>rfl),(Nat.le_refl _),hA.drew⟩ (fun hHeld=> ?_)
 generalize hV_V1d:V1.drew=V1d at hHeld⊢
 have d_k0:=dK hV_V1d k0
 have d_k1:=dK hV_V1d k1
 clear c_k0 f_k0 c_k1 f_k1
 replace hA:=hA.drew;rw [hV_V1d] at hA
 replace hB:=hB.drew;rw [hV_V1d] at hB
 have z_V1d:=dZ hV_V1d
 have v_k1:=cells_of k1
 clear k0;have k0:=d_k0;clear d_k0
 clear k1;have k1:=d_k1;clear d_k1
 obtain ⟨c_k0,f_k0,l_k0_V1d⟩:=f3 k0
 obtain ⟨c_k1,f_k1,l_k1_V1d⟩:=f3 k1
 clear hV_V1d
 refine tz 0 rfl hHeld ?_
 try simp only [PT]
 refine tz 1 rfl hHeld ?_
 try simp only [PT]
 refine tz 2 rfl hHeld ?_
 try simp only [PT]
 refine tz 3 rfl hHeld ?_
 try simp only [PT]
 refine tz 4 rfl hHeld ?_
 try simp only [PT]
 refine take_call (i:=5) (f:= ?_) (args:= ?_) (v:= ?_) rfl (by kernel_rfl) (by kernel_rfl) (by kernel_rfl) (fun _ _ _ h=>h) (by rfl) hHeld ?_ (fun v hSv=> ?_) ?_
 rotate_left 3
 focus (intro v hSv;go_simp;constructor<;>with_reducible rfl)
 focus (obtain ⟨c0,zs,hAv⟩:=hSv;exact count_calls _ v hAv)
 try simp only [PT]
 refine tz 6 rfl hHeld ?_
 try simp only [PT]
 refine tz 7 rfl hHeld ?_
 try simp only [PT]
 refine tz 8 rfl hHeld ?_
 try simp only [PT]
 refine tz 9 rfl hHeld ?_
 try simp only [PT]
 refine tz 10 rfl hHeld ?_
 try simp only [PT]
 refine tz 11 rfl hHeld ?_
 try simp only [PT]
 refine tz 12 rfl hHeld ?_
 try simp only [PT]
 refine tz 13 rfl hHeld ?_
 try simp only [PT]
 refine tz 14 rfl hHeld ?_
 try simp only [PT]
 refine tz 15 rfl hHeld ?_
 try simp only [PT]
 refine tz 16 rfl hHeld ?_
 try simp only [PT]
 refine tz 17 rfl hHeld ?_
 try simp only [PT]
 refine rd 18 rfl fun K hK=> ?_
 go_simp
 refine gen_app (K:=K) (fun D hV_D=> ?_)
 replace k0:=kK hV_D k0
 replace k1:=kK hV_D k1
 replace hB:Below w.heap.size w D:=nB hV_D
 replace hA:AP D ap s O:=nA hV_D
 have z_D:=zS hV_D
 clear hV_D c_k0 f_k0 c_k1 f_k1
 obtain ⟨c_k0,f_k0,l_k0_D⟩:=f3 k0
 obtain ⟨c_k1,f_k1,l_k1_D⟩:=f3 k1
 refine hK.out _ _ ⟨(fun o=>(c_k1 o).trans (v_k1 o).symm),(by omega),hA⟩ (fun hHeld=> ?_)
 clear hK K
 try simp only [PT]
 refine rd 19 rfl fun K hK=> ?_
 go_simp
 refine hK.out _ _ hHeld (fun hHeld=> ?_)
 clear hK K
 try simp only [PT]
 refine wpAnyH_done (by kernel_rfl) ?_ _
 refine NoPanic.normal ?_
 go_wp2_with fail
 refine bodyPost_ret (v:= .tuple #[(s.get h).val, .bool true]) (by simp [results,Tryz.results86,go_sem,Nd.val, *]) rfl ⟨rfl,hB⟩
set_option maxRecDepth 100000 in
set_option maxHeartbeats 800000 in
theorem lRow_t3 (h:Int) (h1:s.has h=true) (h2:0<s.cnt h) (h3:(s.get h).tag≠4) (h4:(s.get h).tag≠5) (w:World) (hA:AP w ap s O):
  Calls Tryz.prog 86 #[ap, .int .i64 h] w fun e w'=>e= .returned (.tuple #[(s.get h).val, .bool false])∧Below w.heap.size w w':=by
 unfold Nd.val
 have d1:decide (0<s.cnt h)=true:=by simpa using h2
 have d2:((s.get h).tag==4)=false:=by simpa using h3
 have d3:((s.get h).tag==5)=false:=by simpa using h4
 clear h2 h3 h4
 go_enter Tryz.func86,Tryz.ntmps86
 go_wp2_with fail
 refine calls_gen fun V hV_V=> ?_
 have n_k0:=hbk hV_V (w.heap.size)
 simp (maxDischargeDepth:=9) only [BK,not_false_eq_true,reduceCtorEq] at n_k0
 have o_k0: ¬O (w.heap.size):=by first|exact hA.new (Nat.le_refl _)|exact hA.new (by omega)
 have hB:Below w.heap.size w V:=nB hV_V
 replace hA:AP V ap s O:=nA hV_V
 have z_V:=zS hV_V
 clear hV_V
 have k0:=n_k0;clear n_k0
 obtain ⟨c_k0,f_k0,l_k0_V⟩:=f3 k0
 refine (aget_calls _ _ hA).mono ?_
 rintro e_w1 w1 ⟨rfl,hb_w1⟩
 replace hA:=hA.below hb_w1
 replace hB:=below_step hB hb_w1
 replace k0:=keep_blk hb_w1 k0
 have z_w1:=hb_w1.size
 clear hb_w1 c_k0 f_k0
 obtain ⟨c_k0,f_k0,l_k0_w1⟩:=f3 k0
 unfold Nd.val
 go_wp2_with fail
 refine wp_gen fun V1 hV_V1=> ?_
 have n_k1:=hbk hV_V1 (w1.heap.size)
 simp (maxDischargeDepth:=9) only [BK,not_false_eq_true,reduceCtorEq,k0,l_k0_V,l_k0_w1] at n_k1
 have o_k1: ¬O (w1.heap.size):=by first|exact hA.new (Nat.le_refl _)|exact hA.new (by omega)
 replace k0:=kK hV_V1 k0
 replace hB:Below w.heap.size w V1:=nB hV_V1
 replace hA:AP V1 ap s O:=nA hV_V1
 have z_V1:=zS hV_V1
 clear hV_V1 c_k0 f_k0
 obtain ⟨c_k0,f_k0,l_k0_V1⟩:=f3 k0
 have k1:=n_k1;clear n_k1
 obtain ⟨c_k1,f_k1,l_k1_V1⟩:=f3 k1
 refine wp_region_noPanic ?_
 refine wp_region_held_drew (S:=fun v=>(∀o,v.cell? ⟨w1.heap.size,o,none⟩=V1.cell? ⟨w1.heap.size,o,none⟩)∧(V1.heap.size≤v.heap.size)∧AP v ap s O) (by kernel_rfl) ⟨(fun _=>rfl),(Nat.le_refl _),hA.drew⟩ (fun hHeld=> ?_)
 generalize hV_V1d:V1.drew=V1d at hHeld⊢
 have d_k0:=dK hV_V1d k0
 have d_k1:=dK hV_V1d k1
 clear c_k0 f_k0 c_k1 f_k1
 replace hA:=hA.drew;rw [hV_V1d] at hA
 replace hB:=hB.drew;rw [hV_V1d] at hB
 have z_V1d:=dZ hV_V1d
 have v_k1:=cells_of k1
 clear k0;have k0:=d_k0;clear d_k0
 clear k1;have k1:=d_k1;clear d_k1
 obtain ⟨c_k0,f_k0,l_k0_V1d⟩:=f3 k0
 obtain ⟨c_k1,f_k1,l_k1_V1d⟩:=f3 k1
 clear hV_V1d
 refine tz 0 rfl hHeld ?_
 try simp only [PT]
 refine tz 1 rfl hHeld ?_
 try simp only [PT]
 refine tz 2 rfl hHeld ?_
 try simp only [PT]
 refine tz 3 rfl hHeld ?_
 try simp only [PT]
 refine tz 4 rfl hHeld ?_
 try simp only [PT]
 refine take_call (i:=5) (f:= ?_) (args:= ?_) (v:= ?_) rfl (by kernel_rfl) (by kernel_rfl) (by kernel_rfl) (fun _ _ _ h=>h) (by rfl) hHeld ?_ (fun v hSv=> ?_) ?_
 rotate_left 3
 focus (intro v hSv;go_simp;constructor<;>with_reducible rfl)
 focus (obtain ⟨c0,zs,hAv⟩:=hSv;exact count_calls _ v hAv)
 try simp only [PT]
 refine tz 6 rfl hHeld ?_
 try simp only [PT]
 refine tz 7 rfl hHeld ?_
 try simp only [PT]
 refine tz 8 rfl hHeld ?_
 try simp only [PT]
 refine tz 9 rfl hHeld ?_
 try simp only [PT]
 refine tz 10 rfl hHeld ?_
 try simp only [PT]
 refine tz 11 rfl hHeld ?_
 try simp only [PT]
 refine tz 12 rfl hHeld ?_
 try simp only [PT]
 refine tz 13 rfl hHeld ?_
 try simp only [PT]
 refine tz 14 rfl hHeld ?_
 try simp only [PT]
 refine tz 15 rfl hHeld ?_
 try simp only [PT]
 refine tz 16 rfl hHeld ?_
 try simp only [PT]
 refine tz 17 rfl hHeld ?_
 try simp only [PT]
 refine rd 18 rfl fun K hK=> ?_
 go_simp
 refine gen_app (K:=K) (fun D hV_D=> ?_)
 replace k0:=kK hV_D k0
 replace k1:=kK hV_D k1
 replace hB:Below w.heap.size w D:=nB hV_D
 replace hA:AP D ap s O:=nA hV_D
 have z_D:=zS hV_D
 clear hV_D c_k0 f_k0 c_k1 f_k1
 obtain ⟨c_k0,f_k0,l_k0_D⟩:=f3 k0
 obtain ⟨c_k1,f_k1,l_k1_D⟩:=f3 k1
 refine hK.out _ _ ⟨(fun o=>(c_k1 o).trans (v_k1 o).symm),(by omega),hA⟩ (fun hHeld=> ?_)
 clear hK K
 try simp only [PT]
 refine rd 19 rfl fun K hK=> ?_
 go_simp
 refine hK.out _ _ hHeld (fun hHeld=> ?_)
 clear hK K
 try simp only [PT]
 refine wpAnyH_done (by kernel_rfl) ?_ _
 refine NoPanic.normal ?_
 go_wp2_with fail
 refine bodyPost_ret (v:= .tuple #[(s.get h).val, .bool false]) (by simp [results,Tryz.results86,go_sem,Nd.val, *]) rfl ⟨rfl,hB⟩
theorem lRow_calls (h:Int) (w:World) (hA:AP w ap s O):
  Calls Tryz.prog 86 #[ap, .int .i64 h] w fun e w'=>e= .returned (.tuple #[(s.get h).val, .bool (lIs s h)])∧Below w.heap.size w w':=by
 cases h1:s.has h with
 | false=>unfold lIs;rw [h1];exact lRow_no h h1 w hA
 | true=>
  by_cases h2:0<s.cnt h
  ·
   by_cases h3:(s.get h).tag=4
   ·
    have e:lIs s h=true:=by unfold lIs;rw [h1];simp [h2,h3]
    rw [e];exact lRow_t1 h h1 h2 h3 w hA
   ·
    by_cases h4:(s.get h).tag=5
    ·
     have e:lIs s h=true:=by unfold lIs;rw [h1];simp [h2,h4]
     rw [e];exact lRow_t2 h h1 h2 h4 w hA
    ·
     have e:lIs s h=false:=by unfold lIs;rw [h1];simp [h3,h4]
     rw [e];exact lRow_t3 h h1 h2 h3 h4 w hA
  ·
   have e:lIs s h=false:=by unfold lIs;rw [h1];simp [h2]
   rw [e];exact lRow_dead h h1 h2 w hA
set_option maxRecDepth 100000 in
set_option maxHeartbeats 800000 in
theorem wRow_no (h:Int) (h1:s.has h=false) (w:World) (hA:AP w ap s O):
  Calls Tryz.prog 126 #[ap, .int .i64 h] w fun e w'=>e= .returned (.tuple #[(s.get h).val, .bool false])∧Below w.heap.size w w':=by
 unfold Nd.val
 go_enter Tryz.func126,Tryz.ntmps126
 go_wp2_with fail
 refine calls_gen fun V hV_V=> ?_
 have n_k0:=hbk hV_V (w.heap.size)
 simp (maxDischargeDepth:=9) only [BK,not_false_eq_true,reduceCtorEq] at n_k0
 have o_k0: ¬O (w.heap.size):=by first|exact hA.new (Nat.le_refl _)|exact hA.new (by omega)
 have hB:Below w.heap.size w V:=nB hV_V
 replace hA:AP V ap s O:=nA hV_V
 have z_V:=zS hV_V
 clear hV_V
 have k0:=n_k0;clear n_k0
 obtain ⟨c_k0,f_k0,l_k0_V⟩:=f3 k0
 refine (aget_calls _ _ hA).mono ?_
 rintro e_w1 w1 ⟨rfl,hb_w1⟩
 replace hA:=hA.below hb_w1
 replace hB:=below_step hB hb_w1
 replace k0:=keep_blk hb_w1 k0
 have z_w1:=hb_w1.size
 clear hb_w1 c_k0 f_k0
 obtain ⟨c_k0,f_k0,l_k0_w1⟩:=f3 k0
 unfold Nd.val
 go_wp2_with fail
 refine wp_gen fun V1 hV_V1=> ?_
 have n_k1:=hbk hV_V1 (w1.heap.size)
 simp (maxDischargeDepth:=9) only [BK,not_false_eq_true,reduceCtorEq,k0,l_k0_V,l_k0_w1] at n_k1
 have o_k1: ¬O (w1.heap.size):=by first|exact hA.new (Nat.le_refl _)|exact hA.new (by omega)
 replace k0:=kK hV_V1 k0
 replace hB:Below w.heap.size w V1:=nB hV_V1
 replace hA:AP V1 ap s O:=nA hV_V1
 have z_V1:=zS hV_V1
 clear hV_V1 c_k0 f_k0
 obtain ⟨c_k0,f_k0,l_k0_V1⟩:=f3 k0
 have k1:=n_k1;clear n_k1
 obtain ⟨c_k1,f_k1,l_k1_V1⟩:=f3 k1
 refine wp_region_noPanic ?_
 refine wp_region_held_drew (S:=fun v=>(∀o,v.cell? ⟨w1.heap.size,o,none⟩=V1.cell? ⟨w1.heap.size,o,none⟩)∧(V1.heap.size≤v.heap.size)∧AP v ap s O) (by kernel_rfl) ⟨(fun _=>rfl),(Nat.le_refl _),hA.drew⟩ (fun hHeld=> ?_)
 generalize hV_V1d:V1.drew=V1d at hHeld⊢
 have d_k0:=dK hV_V1d k0
 have d_k1:=dK hV_V1d k1
 clear c_k0 f_k0 c_k1 f_k1
 replace hA:=hA.drew;rw [hV_V1d] at hA
 replace hB:=hB.drew;rw [hV_V1d] at hB
 have z_V1d:=dZ hV_V1d
 have v_k1:=cells_of k1
 clear k0;have k0:=d_k0;clear d_k0
 clear k1;have k1:=d_k1;clear d_k1
 obtain ⟨c_k0,f_k0,l_k0_V1d⟩:=f3 k0
 obtain ⟨c_k1,f_k1,l_k1_V1d⟩:=f3 k1
 clear hV_V1d
 refine tz 0 rfl hHeld ?_
 try simp only [PT]
 refine tz 1 rfl hHeld ?_
 try simp only [PT]
 refine tz 2 rfl hHeld ?_
 try simp only [PT]
 refine take_no (i:=3) rfl (by kernel_rfl) (by kernel_rfl) (by kernel_rfl) (fun _ _ _ h=>h) (by rfl) hHeld ?_
 try simp only [PT]
 refine take_no (i:=4) rfl (by kernel_rfl) (by kernel_rfl) (by kernel_rfl) (fun _ _ _ h=>h) (by rfl) hHeld ?_
 try simp only [PT]
 refine take_no (i:=5) rfl (by kernel_rfl) (by kernel_rfl) (by kernel_rfl) (fun _ _ _ h=>h) (by rfl) hHeld ?_
 try simp only [PT]
 refine take_no (i:=6) rfl (by kernel_rfl) (by kernel_rfl) (by kernel_rfl) (fun _ _ _ h=>h) (by rfl) hHeld ?_
 try simp only [PT]
 refine tz 7 rfl hHeld ?_
 try simp only [PT]
 refine tz 8 rfl hHeld ?_
 try simp only [PT]
 refine take_no (i:=9) rfl (by kernel_rfl) (by kernel_rfl) (by kernel_rfl) (fun _ _ _ h=>h) (by rfl) hHeld ?_
 try simp only [PT]
 refine take_no (i:=10) rfl (by kernel_rfl) (by kernel_rfl) (by kernel_rfl) (fun _ _ _ h=>h) (by rfl) hHeld ?_
 try simp only [PT]
 refine take_no (i:=11) rfl (by kernel_rfl) (by kernel_rfl) (by kernel_rfl) (fun _ _ _ h=>h) (by rfl) hHeld ?_
 try simp only [PT]
 refine tz 12 rfl hHeld ?_
 try simp only [PT]
 refine rd 13 rfl fun K hK=> ?_
 go_simp
 refine gen_app (K:=K) (fun D hV_D=> ?_)
 replace k0:=kK hV_D k0
 replace k1:=kK hV_D k1
 replace hB:Below w.heap.size w D:=nB hV_D
 replace hA:AP D ap s O:=nA hV_D
 have z_D:=zS hV_D
 clear hV_D c_k0 f_k0 c_k1 f_k1
 obtain ⟨c_k0,f_k0,l_k0_D⟩:=f3 k0
 obtain ⟨c_k1,f_k1,l_k1_D⟩:=f3 k1
 refine hK.out _ _ ⟨(fun o=>(c_k1 o).trans (v_k1 o).symm),(by omega),hA⟩ (fun hHeld=> ?_)
 clear hK K
 try simp only [PT]
 refine rd 14 rfl fun K hK=> ?_
 go_simp
 refine hK.out _ _ hHeld (fun hHeld=> ?_)
 clear hK K
 try simp only [PT]
 refine wpAnyH_done (by kernel_rfl) ?_ _
 refine NoPanic.normal ?_
 go_wp2_with fail
 refine bodyPost_ret (v:= .tuple #[(s.get h).val, .bool false]) (by simp [results,Tryz.results126,go_sem,Nd.val, *]) rfl ⟨rfl,hB⟩
set_option maxRecDepth 100000 in
set_option maxHeartbeats 800000 in
theorem wRow_dead (h:Int) (h1:s.has h=true) (h2: ¬0<s.cnt h) (w:World) (hA:AP w ap s O):
  Calls Tryz.prog 126 #[ap, .int .i64 h] w fun e w'=>e= .returned (.tuple #[(s.get h).val, .bool false])∧Below w.heap.size w w':=by
 unfold Nd.val
 have d1:decide (0<s.cnt h)=false:=by simpa using h2
 clear h2
 go_enter Tryz.func126,Tryz.ntmps126
 go_wp2_with fail
 refine calls_gen fun V hV_V=> ?_
 have n_k0:=hbk hV_V (w.heap.size)
 simp (maxDischargeDepth:=9) only [BK,not_false_eq_true,reduceCtorEq] at n_k0
 have o_k0: ¬O (w.heap.size):=by first|exact hA.new (Nat.le_refl _)|exact hA.new (by omega)
 have hB:Below w.heap.size w V:=nB hV_V
 replace hA:AP V ap s O:=nA hV_V
 have z_V:=zS hV_V
 clear hV_V
 have k0:=n_k0;clear n_k0
 obtain ⟨c_k0,f_k0,l_k0_V⟩:=f3 k0
 refine (aget_calls _ _ hA).mono ?_
 rintro e_w1 w1 ⟨rfl,hb_w1⟩
 replace hA:=hA.below hb_w1
 replace hB:=below_step hB hb_w1
 replace k0:=keep_blk hb_w1 k0
 have z_w1:=hb_w1.size
 clear hb_w1 c_k0 f_k0
 obtain ⟨c_k0,f_k0,l_k0_w1⟩:=f3 k0
 unfold Nd.val
 go_wp2_with fail
 refine wp_gen fun V1 hV_V1=> ?_
 have n_k1:=hbk hV_V1 (w1.heap.size)
 simp (maxDischargeDepth:=9) only [BK,not_false_eq_true,reduceCtorEq,k0,l_k0_V,l_k0_w1] at n_k1
 have o_k1: ¬O (w1.heap.size):=by first|exact hA.new (Nat.le_refl _)|exact hA.new (by omega)
 replace k0:=kK hV_V1 k0
 replace hB:Below w.heap.size w V1:=nB hV_V1
 replace hA:AP V1 ap s O:=nA hV_V1
 have z_V1:=zS hV_V1
 clear hV_V1 c_k0 f_k0
 obtain ⟨c_k0,f_k0,l_k0_V1⟩:=f3 k0
 have k1:=n_k1;clear n_k1
 obtain ⟨c_k1,f_k1,l_k1_V1⟩:=f3 k1
 refine wp_region_noPanic ?_
 refine wp_region_held_drew (S:=fun v=>(∀o,v.cell? ⟨w1.heap.size,o,none⟩=V1.cell? ⟨w1.heap.size,o,none⟩)∧(V1.heap.size≤v.heap.size)∧AP v ap s O) (by kernel_rfl) ⟨(fun _=>rfl),(Nat.le_refl _),hA.drew⟩ (fun hHeld=> ?_)
 generalize hV_V1d:V1.drew=V1d at hHeld⊢
 have d_k0:=dK hV_V1d k0
 have d_k1:=dK hV_V1d k1
 clear c_k0 f_k0 c_k1 f_k1
 replace hA:=hA.drew;rw [hV_V1d] at hA
 replace hB:=hB.drew;rw [hV_V1d] at hB
 have z_V1d:=dZ hV_V1d
 have v_k1:=cells_of k1
 clear k0;have k0:=d_k0;clear d_k0
 clear k1;have k1:=d_k1;clear d_k1
 obtain ⟨c_k0,f_k0,l_k0_V1d⟩:=f3 k0
 obtain ⟨c_k1,f_k1,l_k1_V1d⟩:=f3 k1
 clear hV_V1d
 refine tz 0 rfl hHeld ?_
 try simp only [PT]
 refine tz 1 rfl hHeld ?_
 try simp only [PT]
 refine tz 2 rfl hHeld ?_
 try simp only [PT]
 refine tz 3 rfl hHeld ?_
 try simp only [PT]
 refine tz 4 rfl hHeld ?_
 try simp only [PT]
 refine take_call (i:=5) (f:= ?_) (args:= ?_) (v:= ?_) rfl (by kernel_rfl) (by kernel_rfl) (by kernel_rfl) (fun _ _ _ h=>h) (by rfl) hHeld ?_ (fun v hSv=> ?_) ?_
 rotate_left 3
 focus (intro v hSv;go_simp;constructor<;>with_reducible rfl)
 focus (obtain ⟨c0,zs,hAv⟩:=hSv;exact count_calls _ v hAv)
 try simp only [PT]
 refine tz 6 rfl hHeld ?_
 try simp only [PT]
 refine tz 7 rfl hHeld ?_
 try simp only [PT]
 refine tz 8 rfl hHeld ?_
 try simp only [PT]
 refine take_no (i:=9) rfl (by kernel_rfl) (by kernel_rfl) (by kernel_rfl) (fun _ _ _ h=>h) (by rfl) hHeld ?_
 try simp only [PT]
 refine take_no (i:=10) rfl (by kernel_rfl) (by kernel_rfl) (by kernel_rfl) (fun _ _ _ h=>h) (by rfl) hHeld ?_
 try simp only [PT]
 refine take_no (i:=11) rfl (by kernel_rfl) (by kernel_rfl) (by kernel_rfl) (fun _ _ _ h=>h) (by rfl) hHeld ?_
 try simp only [PT]
 refine tz 12 rfl hHeld ?_
 try simp only [PT]
 refine rd 13 rfl fun K hK=> ?_
 go_simp
 refine gen_app (K:=K) (fun D hV_D=> ?_)
 replace k0:=kK hV_D k0
 replace k1:=kK hV_D k1
 replace hB:Below w.heap.size w D:=nB hV_D
 replace hA:AP D ap s O:=nA hV_D
 have z_D:=zS hV_D
 clear hV_D c_k0 f_k0 c_k1 f_k1
 obtain ⟨c_k0,f_k0,l_k0_D⟩:=f3 k0
 obtain ⟨c_k1,f_k1,l_k1_D⟩:=f3 k1
 refine hK.out _ _ ⟨(fun o=>(c_k1 o).trans (v_k1 o).symm),(by omega),hA⟩ (fun hHeld=> ?_)
 clear hK K
 try simp only [PT]
 refine rd 14 rfl fun K hK=> ?_
 go_simp
 refine hK.out _ _ hHeld (fun hHeld=> ?_)
 clear hK K
 try simp only [PT]
 refine wpAnyH_done (by kernel_rfl) ?_ _
 refine NoPanic.normal ?_
 go_wp2_with fail
 refine bodyPost_ret (v:= .tuple #[(s.get h).val, .bool false]) (by simp [results,Tryz.results126,go_sem,Nd.val, *]) rfl ⟨rfl,hB⟩
set_option maxRecDepth 100000 in
set_option maxHeartbeats 800000 in
theorem wRow_t1 (h:Int) (h1:s.has h=true) (h2:0<s.cnt h) (h3:(s.get h).tag=3) (w:World) (hA:AP w ap s O):
  Calls Tryz.prog 126 #[ap, .int .i64 h] w fun e w'=>e= .returned (.tuple #[(s.get h).val, .bool true])∧Below w.heap.size w w':=by
 unfold Nd.val
 have d1:decide (0<s.cnt h)=true:=by simpa using h2
 have d2:((s.get h).tag==3)=true:=by simpa using h3
 clear h2 h3
 go_enter Tryz.func126,Tryz.ntmps126
 go_wp2_with fail
 refine calls_gen fun V hV_V=> ?_
 have n_k0:=hbk hV_V (w.heap.size)
 simp (maxDischargeDepth:=9) only [BK,not_false_eq_true,reduceCtorEq] at n_k0
 have o_k0: ¬O (w.heap.size):=by first|exact hA.new (Nat.le_refl _)|exact hA.new (by omega)
 have hB:Below w.heap.size w V:=nB hV_V
 replace hA:AP V ap s O:=nA hV_V
 have z_V:=zS hV_V
 clear hV_V
 have k0:=n_k0;clear n_k0
 obtain ⟨c_k0,f_k0,l_k0_V⟩:=f3 k0
 refine (aget_calls _ _ hA).mono ?_
 rintro e_w1 w1 ⟨rfl,hb_w1⟩
 replace hA:=hA.below hb_w1
 replace hB:=below_step hB hb_w1
 replace k0:=keep_blk hb_w1 k0
 have z_w1:=hb_w1.size
 clear hb_w1 c_k0 f_k0
 obtain ⟨c_k0,f_k0,l_k0_w1⟩:=f3 k0
 unfold Nd.val
 go_wp2_with fail
 refine wp_gen fun V1 hV_V1=> ?_
 have n_k1:=hbk hV_V1 (w1.heap.size)
 simp (maxDischargeDepth:=9) only [BK,not_false_eq_true,reduceCtorEq,k0,l_k0_V,l_k0_w1] at n_k1
 have o_k1: ¬O (w1.heap.size):=by first|exact hA.new (Nat.le_refl _)|exact hA.new (by omega)
 replace k0:=kK hV_V1 k0
 replace hB:Below w.heap.size w V1:=nB hV_V1
 replace hA:AP V1 ap s O:=nA hV_V1
 have z_V1:=zS hV_V1
 clear hV_V1 c_k0 f_k0
 obtain ⟨c_k0,f_k0,l_k0_V1⟩:=f3 k0
 have k1:=n_k1;clear n_k1
 obtain ⟨c_k1,f_k1,l_k1_V1⟩:=f3 k1
 refine wp_region_noPanic ?_
 refine wp_region_held_drew (S:=fun v=>(∀o,v.cell? ⟨w1.heap.size,o,none⟩=V1.cell? ⟨w1.heap.size,o,none⟩)∧(V1.heap.size≤v.heap.size)∧AP v ap s O) (by kernel_rfl) ⟨(fun _=>rfl),(Nat.le_refl _),hA.drew⟩ (fun hHeld=> ?_)
 generalize hV_V1d:V1.drew=V1d at hHeld⊢
 have d_k0:=dK hV_V1d k0
 have d_k1:=dK hV_V1d k1
 clear c_k0 f_k0 c_k1 f_k1
 replace hA:=hA.drew;rw [hV_V1d] at hA
 replace hB:=hB.drew;rw [hV_V1d] at hB
 have z_V1d:=dZ hV_V1d
 have v_k1:=cells_of k1
 clear k0;have k0:=d_k0;clear d_k0
 clear k1;have k1:=d_k1;clear d_k1
 obtain ⟨c_k0,f_k0,l_k0_V1d⟩:=f3 k0
 obtain ⟨c_k1,f_k1,l_k1_V1d⟩:=f3 k1
 clear hV_V1d
 refine tz 0 rfl hHeld ?_
 try simp only [PT]
 refine tz 1 rfl hHeld ?_
 try simp only [PT]
 refine tz 2 rfl hHeld ?_
 try simp only [PT]
 refine tz 3 rfl hHeld ?_
 try simp only [PT]
 refine tz 4 rfl hHeld ?_
 try simp only [PT]
 refine take_call (i:=5) (f:= ?_) (args:= ?_) (v:= ?_) rfl (by kernel_rfl) (by kernel_rfl) (by kernel_rfl) (fun _ _ _ h=>h) (by rfl) hHeld ?_ (fun v hSv=> ?_) ?_
 rotate_left 3
 focus (intro v hSv;go_simp;constructor<;>with_reducible rfl)
 focus (obtain ⟨c0,zs,hAv⟩:=hSv;exact count_calls _ v hAv)
 try simp only [PT]
 refine tz 6 rfl hHeld ?_
 try simp only [PT]
 refine tz 7 rfl hHeld ?_
 try simp only [PT]
 refine tz 8 rfl hHeld ?_
 try simp only [PT]
 refine tz 9 rfl hHeld ?_
 try simp only [PT]
 refine tz 10 rfl hHeld ?_
 try simp only [PT]
 refine tz 11 rfl hHeld ?_
 try simp only [PT]
 refine tz 12 rfl hHeld ?_
 try simp only [PT]
 refine rd 13 rfl fun K hK=> ?_
 go_simp
 refine gen_app (K:=K) (fun D hV_D=> ?_)
 replace k0:=kK hV_D k0
 replace k1:=kK hV_D k1
 replace hB:Below w.heap.size w D:=nB hV_D
 replace hA:AP D ap s O:=nA hV_D
 have z_D:=zS hV_D
 clear hV_D c_k0 f_k0 c_k1 f_k1
 obtain ⟨c_k0,f_k0,l_k0_D⟩:=f3 k0
 obtain ⟨c_k1,f_k1,l_k1_D⟩:=f3 k1
 refine hK.out _ _ ⟨(fun o=>(c_k1 o).trans (v_k1 o).symm),(by omega),hA⟩ (fun hHeld=> ?_)
 clear hK K
 try simp only [PT]
 refine rd 14 rfl fun K hK=> ?_
 go_simp
 refine hK.out _ _ hHeld (fun hHeld=> ?_)
 clear hK K
 try simp only [PT]
 refine wpAnyH_done (by kernel_rfl) ?_ _
 refine NoPanic.normal ?_
 go_wp2_with fail
 refine bodyPost_ret (v:= .tuple #[(s.get h).val, .bool true]) (by simp [results,Tryz.results126,go_sem,Nd.val, *]) rfl ⟨rfl,hB⟩
set_option maxRecDepth 100000 in
set_option maxHeartbeats 800000 in
theorem wRow_t3 (h:Int) (h1:s.has h=true) (h2:0<s.cnt h) (h3:(s.get h).tag≠3) (w:World) (hA:AP w ap s O):
  Calls Tryz.prog 126 #[ap, .int .i64 h] w fun e w'=>e= .returned (.tuple #[(s.get h).val, .bool false])∧Below w.heap.size w w':=by
 unfold Nd.val
 have d1:decide (0<s.cnt h)=true:=by simpa using h2
 have d2:((s.get h).tag==3)=false:=by simpa using h3
 clear h2 h3
 go_enter Tryz.func126,Tryz.ntmps126
 go_wp2_with fail
 refine calls_gen fun V hV_V=> ?_
 have n_k0:=hbk hV_V (w.heap.size)
 simp (maxDischargeDepth:=9) only [BK,not_false_eq_true,reduceCtorEq] at n_k0
 have o_k0: ¬O (w.heap.size):=by first|exact hA.new (Nat.le_refl _)|exact hA.new (by omega)
 have hB:Below w.heap.size w V:=nB hV_V
 replace hA:AP V ap s O:=nA hV_V
 have z_V:=zS hV_V
 clear hV_V
 have k0:=n_k0;clear n_k0
 obtain ⟨c_k0,f_k0,l_k0_V⟩:=f3 k0
 refine (aget_calls _ _ hA).mono ?_
 rintro e_w1 w1 ⟨rfl,hb_w1⟩
 replace hA:=hA.below hb_w1
 replace hB:=below_step hB hb_w1
 replace k0:=keep_blk hb_w1 k0
 have z_w1:=hb_w1.size
 clear hb_w1 c_k0 f_k0
 obtain ⟨c_k0,f_k0,l_k0_w1⟩:=f3 k0
 unfold Nd.val
 go_wp2_with fail
 refine wp_gen fun V1 hV_V1=> ?_
 have n_k1:=hbk hV_V1 (w1.heap.size)
 simp (maxDischargeDepth:=9) only [BK,not_false_eq_true,reduceCtorEq,k0,l_k0_V,l_k0_w1] at n_k1
 have o_k1: ¬O (w1.heap.size):=by first|exact hA.new (Nat.le_refl _)|exact hA.new (by omega)
 replace k0:=kK hV_V1 k0
 replace hB:Below w.heap.size w V1:=nB hV_V1
 replace hA:AP V1 ap s O:=nA hV_V1
 have z_V1:=zS hV_V1
 clear hV_V1 c_k0 f_k0
 obtain ⟨c_k0,f_k0,l_k0_V1⟩:=f3 k0
 have k1:=n_k1;clear n_k1
 obtain ⟨c_k1,f_k1,l_k1_V1⟩:=f3 k1
 refine wp_region_noPanic ?_
 refine wp_region_held_drew (S:=fun v=>(∀o,v.cell? ⟨w1.heap.size,o,none⟩=V1.cell? ⟨w1.heap.size,o,none⟩)∧(V1.heap.size≤v.heap.size)∧AP v ap s O) (by kernel_rfl) ⟨(fun _=>rfl),(Nat.le_refl _),hA.drew⟩ (fun hHeld=> ?_)
 generalize hV_V1d:V1.drew=V1d at hHeld⊢
 have d_k0:=dK hV_V1d k0
 have d_k1:=dK hV_V1d k1
 clear c_k0 f_k0 c_k1 f_k1
 replace hA:=hA.drew;rw [hV_V1d] at hA
 replace hB:=hB.drew;rw [hV_V1d] at hB
 have z_V1d:=dZ hV_V1d
 have v_k1:=cells_of k1
 clear k0;have k0:=d_k0;clear d_k0
 clear k1;have k1:=d_k1;clear d_k1
 obtain ⟨c_k0,f_k0,l_k0_V1d⟩:=f3 k0
 obtain ⟨c_k1,f_k1,l_k1_V1d⟩:=f3 k1
 clear hV_V1d
 refine tz 0 rfl hHeld ?_
 try simp only [PT]
 refine tz 1 rfl hHeld ?_
 try simp only [PT]
 refine tz 2 rfl hHeld ?_
 try simp only [PT]
 refine tz 3 rfl hHeld ?_
 try simp only [PT]
 refine tz 4 rfl hHeld ?_
 try simp only [PT]
 refine take_call (i:=5) (f:= ?_) (args:= ?_) (v:= ?_) rfl (by kernel_rfl) (by kernel_rfl) (by kernel_rfl) (fun _ _ _ h=>h) (by rfl) hHeld ?_ (fun v hSv=> ?_) ?_
 rotate_left 3
 focus (intro v hSv;go_simp;constructor<;>with_reducible rfl)
 focus (obtain ⟨c0,zs,hAv⟩:=hSv;exact count_calls _ v hAv)
 try simp only [PT]
 refine tz 6 rfl hHeld ?_
 try simp only [PT]
 refine tz 7 rfl hHeld ?_
 try simp only [PT]
 refine tz 8 rfl hHeld ?_
 try simp only [PT]
 refine tz 9 rfl hHeld ?_
 try simp only [PT]
 refine tz 10 rfl hHeld ?_
 try simp only [PT]
 refine tz 11 rfl hHeld ?_
 try simp only [PT]
 refine tz 12 rfl hHeld ?_
 try simp only [PT]
 refine rd 13 rfl fun K hK=> ?_
 go_simp
 refine gen_app (K:=K) (fun D hV_D=> ?_)
 replace k0:=kK hV_D k0
 replace k1:=kK hV_D k1
 replace hB:Below w.heap.size w D:=nB hV_D
 replace hA:AP D ap s O:=nA hV_D
 have z_D:=zS hV_D
 clear hV_D c_k0 f_k0 c_k1 f_k1
 obtain ⟨c_k0,f_k0,l_k0_D⟩:=f3 k0
 obtain ⟨c_k1,f_k1,l_k1_D⟩:=f3 k1
 refine hK.out _ _ ⟨(fun o=>(c_k1 o).trans (v_k1 o).symm),(by omega),hA⟩ (fun hHeld=> ?_)
 clear hK K
 try simp only [PT]
 refine rd 14 rfl fun K hK=> ?_
 go_simp
 refine hK.out _ _ hHeld (fun hHeld=> ?_)
 clear hK K
 try simp only [PT]
 refine wpAnyH_done (by kernel_rfl) ?_ _
 refine NoPanic.normal ?_
 go_wp2_with fail
 refine bodyPost_ret (v:= .tuple #[(s.get h).val, .bool false]) (by simp [results,Tryz.results126,go_sem,Nd.val, *]) rfl ⟨rfl,hB⟩
theorem wRow_calls (h:Int) (w:World) (hA:AP w ap s O):
  Calls Tryz.prog 126 #[ap, .int .i64 h] w fun e w'=>e= .returned (.tuple #[(s.get h).val, .bool (wIsR s h)])∧Below w.heap.size w w':=by
 cases h1:s.has h with
 | false=>unfold wIsR;rw [h1];exact wRow_no h h1 w hA
 | true=>
  by_cases h2:0<s.cnt h
  ·
   by_cases h3:(s.get h).tag=3
   ·
    have e:wIsR s h=true:=by unfold wIsR;rw [h1];simp [h2,h3]
    rw [e];exact wRow_t1 h h1 h2 h3 w hA
   ·
    have e:wIsR s h=false:=by unfold wIsR;rw [h1];simp [h3]
    rw [e];exact wRow_t3 h h1 h2 h3 w hA
  ·
   have e:wIsR s h=false:=by unfold wIsR;rw [h1];simp [h2]
   rw [e];exact wRow_dead h h1 h2 w hA
end Go.Proofs.YtdjpjmkpndmhaaaGreat
namespace Go.Proofs.YtdjpjmkpndmhaaaGreat
open Go.RowKit
attribute [local go_sem ↓] Go.wp_at_zero Go.wp_at_succ
attribute [local go_sem] lt_s2 ne_s2 ne_t2 lt_s3 ne_s3 ne_t3 lt_s4 ne_s4 ne_t4 lt_s5 ne_s5 ne_t5 lt_s6 ne_s6 ne_t6 lt_s7 ne_s7 ne_t7 lt_s8 ne_s8 ne_t8 lt_s9 ne_s9 ne_t9 lt_s10 ne_s10 ne_t10 lt_s11 ne_s11 ne_t11 lt_s12 ne_s12 ne_t12
set_option maxHeartbeats 400000 in
theorem first_any (n : Nat) (hn : n ≤ 64) (w : World) :
    Calls Tryz.prog 132 #[.int .i64 (n:Int)] w fun e w'=>e= .returned (.int .u64 ((2 ^ n - 1:Nat):Int))∧w=w':=by
  by_cases h:64≤n
  · obtain rfl:n=64:=by omega
    go_enter Tryz.func132,Tryz.ntmps132
    go_wp2
    go_ret
    exact ⟨rfl,rfl⟩
  · go_enter Tryz.func132,Tryz.ntmps132
    go_wp2
    go_ret
    exact ⟨by rw [wrap_first n (by omega)];rfl,rfl⟩
set_option maxHeartbeats 400000 in
theorem right_nat (b n : Nat) (hn : n ≤ 64) (hb : b < 2 ^ 64) (w : World) :
    Calls Tryz.prog 130 #[.agg #[.int .u64 (b:Int), .int .i64 (n:Int)]] w fun e w'=>e= .returned (.bool (decide (b<2 ^ n)))∧Below w.heap.size w w':=by
  have ha:=Lib.hid (andNot_first b n hb hn)
  have d1:(0:Int)≤(n:Int):=by omega
  have d2:(n:Int)≤64:=by omega
  go_enter Tryz.func130,Tryz.ntmps130
  go_wp2
  go_quiet ((go_at_call 132;exact quiet_left (first_any _ (by omega) _)))
  go_wp2
  go_ret
  refine ⟨ret_bool ?_,below_drewN ((Below.refl _ _).alloc (Nat.le_refl _) _) _⟩
  rw [ha.out,Bool.eq_iff_iff]
  have hp:0<2 ^ n:=Nat.two_pow_pos n
  have hm:b % 2 ^ n≤b:=Nat.mod_le _ _
  simp only [beq_iff_eq,decide_eq_true_eq]
  constructor
  · intro h;have:b % 2 ^ n=b:=by omega
    rw [←this];exact Nat.mod_lt _ hp
  · intro h;rw [Nat.mod_eq_of_lt h];omega
set_option maxHeartbeats 400000 in
theorem right_out (b n : Int) (hn : n < 0 ∨ 64 < n) (w : World) :
    Calls Tryz.prog 130 #[.agg #[.int .u64 b, .int .i64 n]] w fun e w'=>e= .returned (.bool false)∧Below w.heap.size w w':=by
  rcases hn with hn|hn
  · have d1:decide ((0:Int)≤n)=false:=by simp;omega
    go_enter Tryz.func130,Tryz.ntmps130
    go_wp2
    go_quiet (fail)
    go_wp2
    go_ret
    exact ⟨rfl,below_drewN ((Below.refl _ _).alloc (Nat.le_refl _) _) _⟩
  · have d1:(0:Int)≤n:=by omega
    have d2:decide (n≤(64:Int))=false:=by simp;omega
    go_enter Tryz.func130,Tryz.ntmps130
    go_wp2
    go_quiet (fail)
    go_wp2
    go_ret
    exact ⟨rfl,below_drewN ((Below.refl _ _).alloc (Nat.le_refl _) _) _⟩
theorem right_yes (l : List Bool) (hl : l.length ≤ 64) (w : World) :
    Calls Tryz.prog 130 #[.agg #[.int .u64 (pack l:Int), .int .i64 (l.length:Int)]] w fun e w'=>e= .returned (.bool true)∧Below w.heap.size w w':=
  (right_nat _ _ hl (pack_lt64 hl) w).mono fun _ _ ⟨he,h⟩=>⟨by rw [he,decide_eq_true (pack_lt l)],h⟩
theorem right_no (b : Nat) (n : Int) (hb : b < 2 ^ 64) (h : ¬ Rt b n) (w : World) :
    Calls Tryz.prog 130 #[.agg #[.int .u64 (b:Int), .int .i64 n]] w fun e w'=>e= .returned (.bool false)∧Below w.heap.size w w':=by
  by_cases hn:n<0∨64<n
  · exact right_out _ _ hn w
  · obtain ⟨m,rfl⟩:=Int.eq_ofNat_of_zero_le (show 0≤n by omega)
    refine (right_nat b m (by omega) hb w).mono fun _ _ ⟨he,h'⟩=>⟨?_,h'⟩
    rw [he,decide_eq_false]
    intro hlt
    exact h ⟨by omega,by omega,by simpa using hlt⟩
set_option maxHeartbeats 400000 in
theorem ones_pack_calls (l : List Bool) (hl : l.length ≤ 64) (w : World) :
    Calls Tryz.prog 131 #[.int .u64 (pack l:Int)] w fun e w'=>e= .returned (.int .i64 (l.count true:Int))∧w=w':=by
  go_enter Tryz.func131,Tryz.ntmps131
  go_wp2
  go_ret
  refine ⟨?_,rfl⟩
  refine ret_int ?_
  obtain ⟨_,_,_,hc,hh⟩:=ones_pack l hl
  obtain ⟨e1,e2,e3⟩:=ones_steps l hl
  obtain ⟨e4,e5,e6,e7,e8⟩:=ones_end _ _ hc hh
  rw [e1,e2,e3,e4,e5,e6]
  have hw: ∀n:Nat,n<9223372036854775808→wrap64 (n:Int)=n:=fun n h=>by unfold wrap64;omega
  rw [hw _ e7]
  exact e8
set_option maxHeartbeats 400000 in
theorem rank_list (l : List Bool) (hl : l.length ≤ 64) (i : Int) (w : World) :
    Calls Tryz.prog 87 #[.agg #[.int .u64 (pack l:Int), .int .i64 (l.length:Int)], .int .i64 i] w fun e w'=>e= .returned (.int .i64 ((l.take i.toNat).count true:Int))∧Below w.heap.size w w':=by
  obtain ⟨k,hk,hkl,ht, -, -⟩:=clamp_to l i
  have hm:=Lib.hid (and_first (pack l) k (pack_lt64 hl) (by omega))
  have hp:=Lib.hid (pack_mod l k)
  have ht':=Lib.hid ht
  clear ht
  have hl2:(l.take k).length≤64:=by rw [List.length_take];omega
  go_enter Tryz.func87,Tryz.ntmps87
  go_wp2_with fail
  refine (right_yes l hl _).mono ?_
  rintro e w1 ⟨rfl,hb⟩
  obtain ⟨hc,hf⟩:=bcell hb
  go_wp2_with fail
  go_quiet (first
    | (go_at_call 132;exact quiet_left (first_any _ (by omega) _))
    | (go_at_call 131;rw [hm.out,hp.out];exact quiet_left (ones_pack_calls _ hl2 _)))
  go_wp2
  all_goals (go_ret;exact ⟨ret_int (by rw [ht'.out]),below_drewN (below_step (below_box _ _) hb) _⟩)
set_option maxHeartbeats 400000 in
theorem rank_no (b : Nat) (n i : Int) (hb : b < 2 ^ 64) (h : ¬ Rt b n) (w : World) :
    Calls Tryz.prog 87 #[.agg #[.int .u64 (b:Int), .int .i64 n], .int .i64 i] w fun e w'=>e= .returned (.int .i64 0)∧Below w.heap.size w w':=by
  go_enter Tryz.func87,Tryz.ntmps87
  go_wp2_with fail
  refine (right_no b n hb h _).mono ?_
  rintro e w1 ⟨rfl,hb⟩
  go_wp2_with fail
  go_ret
  exact ⟨rfl,below_step (below_box _ _) hb⟩
theorem shr_bit (l:List Bool) (hl:l.length≤64) (i:Nat):(Go.bits .and .u64 (((pack l/2 ^ i:Nat)):Int) 1==1)=l.getD i false:=by
  rw [←testBit_pack,show (1:Int)=((1:Nat):Int) by rfl,and_mask _ _ (Nat.lt_of_le_of_lt (Nat.div_le_self _ _) (pack_lt64 hl)) (by omega),Nat.and_one_is_mod]
  rw [Nat.testBit_eq_decide_div_mod_eq,Bool.eq_iff_iff]
  simp only [beq_iff_eq,decide_eq_true_eq]
  omega
set_option maxHeartbeats 400000 in
theorem get_in (l : List Bool) (hl : l.length ≤ 64) (i : Nat) (hi : i < l.length) (w : World) :
    Calls Tryz.prog 84 #[.agg #[.int .u64 (pack l:Int), .int .i64 (l.length:Int)], .int .i64 (i:Int)] w fun e w'=>e= .returned (.bool (l.getD i false))∧Below w.heap.size w w':=by
  have d1:(0:Int)≤(i:Int):=by omega
  have d2:(i:Int)<(l.length:Int):=by omega
  go_enter Tryz.func84,Tryz.ntmps84
  go_wp2_with fail
  refine (right_yes l hl _).mono ?_
  rintro e w1 ⟨rfl,hb⟩
  obtain ⟨hc,hf⟩:=bcell hb
  go_wp2_with fail
  go_ret
  refine ⟨ret_bool ?_,below_step (below_box _ _) hb⟩
  rw [←shr_bit l hl i]
  norm_cast
theorem getL_nat (l:List Bool) (i:Nat):getL l (i:Int)=l.getD i false:=by simp [getL]
set_option maxHeartbeats 400000 in
theorem get_out (l : List Bool) (hl : l.length ≤ 64) (i : Int) (hi : i < 0 ∨ l.length ≤ i) (w : World) :
    Calls Tryz.prog 84 #[.agg #[.int .u64 (pack l:Int), .int .i64 (l.length:Int)], .int .i64 i] w fun e w'=>e= .returned (.bool false)∧Below w.heap.size w w':=by
  rcases hi with hi|hi
  · have d1:decide ((0:Int)≤i)=false:=by simp;omega
    go_enter Tryz.func84,Tryz.ntmps84
    go_wp2_with fail
    refine (right_yes l hl _).mono ?_
    rintro e w1 ⟨rfl,hb⟩
    obtain ⟨hc,hf⟩:=bcell hb
    go_wp2_with fail
    go_ret
    exact ⟨rfl,below_step (below_box _ _) hb⟩
  · have d1:(0:Int)≤i:=by omega
    have d2:decide (i<(l.length:Int))=false:=by simp;omega
    go_enter Tryz.func84,Tryz.ntmps84
    go_wp2_with fail
    refine (right_yes l hl _).mono ?_
    rintro e w1 ⟨rfl,hb⟩
    obtain ⟨hc,hf⟩:=bcell hb
    go_wp2_with fail
    go_ret
    exact ⟨rfl,below_step (below_box _ _) hb⟩
theorem getL_out (l:List Bool) (i:Int) (hi:i<0∨l.length≤i):getL l i=false:=by
  unfold getL
  rcases hi with hi|hi
  · simp;omega
  · rw [List.getD_eq_getElem?_getD,List.getElem?_eq_none (by omega)];simp
theorem get_list (l : List Bool) (hl : l.length ≤ 64) (i : Int) (w : World) :
    Calls Tryz.prog 84 #[.agg #[.int .u64 (pack l:Int), .int .i64 (l.length:Int)], .int .i64 i] w fun e w'=>e= .returned (.bool (getL l i))∧Below w.heap.size w w':=by
  by_cases h:i<0∨l.length≤i
  · rw [getL_out l i h];exact get_out l hl i h w
  · obtain ⟨m,rfl⟩:=Int.eq_ofNat_of_zero_le (show 0≤i by omega)
    rw [getL_nat];exact get_in l hl m (by omega) w
set_option maxHeartbeats 400000 in
theorem get_no (b : Nat) (n i : Int) (hb : b < 2 ^ 64) (h : ¬ Rt b n) (w : World) :
    Calls Tryz.prog 84 #[.agg #[.int .u64 (b:Int), .int .i64 n], .int .i64 i] w fun e w'=>e= .returned (.bool false)∧Below w.heap.size w w':=by
  go_enter Tryz.func84,Tryz.ntmps84
  go_wp2_with fail
  refine (right_no b n hb h _).mono ?_
  rintro e w1 ⟨rfl,hb⟩
  go_wp2_with fail
  go_ret
  exact ⟨rfl,below_step (below_box _ _) hb⟩
set_option maxHeartbeats 400000 in
theorem split_list (l : List Bool) (hl : l.length ≤ 64) (i : Int) (w : World) :
    Calls Tryz.prog 143 #[.agg #[.int .u64 (pack l:Int), .int .i64 (l.length:Int)], .int .i64 i] w fun e w'=>
      e= .returned (.tuple #[.agg #[.int .u64 (pack (l.take i.toNat):Int), .int .i64 ((l.take i.toNat).length:Int)], .agg #[.int .u64 (pack (l.drop i.toNat):Int), .int .i64 ((l.drop i.toNat).length:Int)]])∧Below w.heap.size w w':=by
  obtain ⟨k,hk,hkl,ht,hd, -⟩:=clamp_to l i
  have hm:=Lib.hid (and_first (pack l) k (pack_lt64 hl) (by omega))
  have hp:=Lib.hid (pack_mod l k)
  have hp2:=Lib.hid (pack_div l k)
  have ht':=Lib.hid ht
  have hd':=Lib.hid hd
  clear ht hd
  have d1:(0:Int)≤(k:Int):=by omega
  have d2:(k:Int)≤(l.length:Int):=by omega
  have HV : Hid (Value.tuple #[.agg #[.int .u64 (Go.bits .and .u64 (pack l : Int) ((2 ^ k - 1 : Nat) : Int)), .int .i64 (k : Int)], .agg #[.int .u64 ((pack l : Int) / 2 ^ k), .int .i64 ((l.length : Int) - (k : Int))]] =
      .tuple #[.agg #[.int .u64 (pack (l.take i.toNat):Int), .int .i64 ((l.take i.toNat).length:Int)], .agg #[.int .u64 (pack (l.drop i.toNat):Int), .int .i64 ((l.drop i.toNat).length:Int)]]):=by
    show _=_
    rw [hm.out,hp.out,ht'.out,show ((pack l:Int)/2 ^ k)=((pack l/2 ^ k:Nat):Int) by norm_cast,hp2.out,hd'.out,←ht'.out,←hd'.out]
    simp;omega
  go_enter Tryz.func143,Tryz.ntmps143
  go_wp2_with fail
  refine (right_yes l hl _).mono ?_
  rintro e w1 ⟨rfl,hb⟩
  obtain ⟨hc,hf⟩:=bcell hb
  go_wp2_with fail
  all_goals
    go_region_held3 (fun w'=>w'.cell? ⟨w.heap.size,0,none⟩=some (.int .u64 (pack l:Int))∧w'.cell? ⟨w.heap.size,1,none⟩=some (.int .i64 (l.length:Int))) (simp [go_sem, *,World.cell?_setCell_far])
      (first|(go_at_call 132;refine (first_any _ (by omega) _).mono ?_;rintro e w' ⟨rfl,rfl⟩))
    go_wp2
    refine bodyPost_ret (v:= .tuple #[.agg #[.int .u64 (Go.bits .and .u64 (pack l:Int) ((2 ^ k - 1:Nat):Int)), .int .i64 (k:Int)], .agg #[.int .u64 ((pack l:Int)/2 ^ k), .int .i64 ((l.length:Int) - (k:Int))]]) (by simp [results,Tryz.results143,go_sem,hc,hf];rw [IntKind.wrap_i64];omega) rfl ⟨congrArg _ HV.out,?_⟩
    exact (((((below_step (((below_box _ _).alloc (by simp) _).alloc (by simp;omega) _) hb).setCell (by simp) _).setCell (by simp) _).setCell (by simp;omega) _).setCell (by simp;omega) _).drew
set_option maxHeartbeats 400000 in
theorem split_no (b : Nat) (n i : Int) (hb : b < 2 ^ 64) (h : ¬ Rt b n) (w : World) :
    Calls Tryz.prog 143 #[.agg #[.int .u64 (b:Int), .int .i64 n], .int .i64 i] w fun e w'=>
      e= .returned (.tuple #[.agg #[.int .u64 0, .int .i64 0], .agg #[.int .u64 0, .int .i64 0]])∧Below w.heap.size w w':=by
  go_enter Tryz.func143,Tryz.ntmps143
  go_wp2_with fail
  refine (right_no b n hb h _).mono ?_
  rintro e w1 ⟨rfl,hb⟩
  obtain ⟨hc,hf⟩:=bcell hb
  have hsz:=hb.size
  simp at hsz
  go_wp2_with fail
  refine bodyPost_ret (v:= .tuple #[.agg #[.int .u64 0, .int .i64 0], .agg #[.int .u64 0, .int .i64 0]]) (by simp [results,Tryz.results143,go_sem,hc,hf]) rfl ⟨rfl,?_⟩
  exact ((((below_step (((below_box _ _).alloc (by simp) _).alloc (by simp;omega) _) hb).setCell (by simp) _).setCell (by simp) _).setCell (by simp;omega) _).setCell (by simp;omega) _
theorem join_value (a b : List Bool) (h : a.length + b.length ≤ 64) :
    Go.bits .or .u64 (pack a:Int) (IntKind.u64.wrap ((pack b:Int)*2 ^ a.length))=(pack (a++b):Int)∧IntKind.i64.wrap ((a.length:Int)+(b.length:Int))=((a++b).length:Int):=by
  have hlt:=pack_lt64 (l:=a++b) (by simpa using h)
  rw [pack_append] at hlt
  have hz:2 ^ a.length*pack b<2 ^ 64:=Nat.lt_of_le_of_lt (Nat.le_add_left _ _) hlt
  have e:((pack b:Int)*2 ^ a.length)=((2 ^ a.length*pack b:Nat):Int):=by rw [Nat.mul_comm];norm_cast
  refine ⟨?_,by rw [IntKind.wrap_i64];simp;omega⟩
  rw [e,wrap_u64 (by omega) (by omega),or_shift _ _ _ (pack_lt a) hlt,pack_append]
set_option maxHeartbeats 400000 in
theorem join_yes (a b : List Bool) (h : a.length + b.length ≤ 64) (w : World) :
    Calls Tryz.prog 168 #[.agg #[.int .u64 (pack a:Int), .int .i64 (a.length:Int)], .agg #[.int .u64 (pack b:Int), .int .i64 (b.length:Int)]] w fun e w'=>
      e= .returned (.tuple #[.agg #[.int .u64 (pack (a++b):Int), .int .i64 ((a++b).length:Int)], .bool true])∧Below w.heap.size w w':=by
  have hv:=Lib.hid (join_value a b h)
  have d2:decide ((64:Int)<(a.length:Int)+(b.length:Int))=false:=by simp;omega
  go_enter Tryz.func168,Tryz.ntmps168
  go_wp2_with fail
  refine calls_gen fun V1 hV_V1=> ?_
  have n_k0:=congrArg (fun v:World=>v.heap[w.heap.size]?) hV_V1
  have n_k1:=congrArg (fun v:World=>v.heap[w.heap.size+1]?) hV_V1
  have n_k2:=congrArg (fun v:World=>v.heap[w.heap.size+1+1]?) hV_V1
  simp (maxDischargeDepth:=9) only [BK,not_false_eq_true,reduceCtorEq] at n_k0
  simp (maxDischargeDepth:=9) only [BK,not_false_eq_true,reduceCtorEq] at n_k1
  simp (maxDischargeDepth:=9) only [BK,not_false_eq_true,reduceCtorEq] at n_k2
  have n_b:Below w.heap.size w V1:=by rw [hV_V1];(repeat' first|with_reducible assumption|with_reducible exact Below.refl _ _|with_reducible refine Below.alloc ?_ ?_ _|with_reducible refine Below.setCell ?_ ?_ _|with_reducible refine below_drewN ?_ _|with_reducible refine Below.drew ?_|exact Nat.le_refl _|((try dsimp only);omega)|(simp only [siz_alloc,siz_set];omega))
  have k0:=n_k0;clear n_k0
  have k1:=n_k1;clear n_k1
  have k2:=n_k2;clear n_k2
  clear hV_V1
  refine (right_yes a (by omega) _).mono ?_
  rintro e_W1 W1 ⟨rfl,hb_W1⟩
  have b1:=below_step n_b hb_W1;clear n_b
  replace k0:=keep_blk hb_W1 k0
  obtain ⟨c_k0,f_k0,l_k0_W1⟩:=f3 k0
  replace k1:=keep_blk hb_W1 k1
  obtain ⟨c_k1,f_k1,l_k1_W1⟩:=f3 k1
  replace k2:=keep_blk hb_W1 k2
  obtain ⟨c_k2,f_k2,l_k2_W1⟩:=f3 k2
  have z_W1:=b1.size
  clear hb_W1
  go_wp2_with fail
  refine calls_gen fun V2 hV_V2=> ?_
  have n_k0:=congrArg (fun v:World=>v.heap[w.heap.size]?) hV_V2
  have n_k1:=congrArg (fun v:World=>v.heap[w.heap.size+1]?) hV_V2
  have n_k2:=congrArg (fun v:World=>v.heap[w.heap.size+1+1]?) hV_V2
  simp (maxDischargeDepth:=9) only [BK,not_false_eq_true,reduceCtorEq,k0,k1,k2,l_k0_W1,l_k1_W1,l_k2_W1] at n_k0
  simp (maxDischargeDepth:=9) only [BK,not_false_eq_true,reduceCtorEq,k0,k1,k2,l_k0_W1,l_k1_W1,l_k2_W1] at n_k1
  simp (maxDischargeDepth:=9) only [BK,not_false_eq_true,reduceCtorEq,k0,k1,k2,l_k0_W1,l_k1_W1,l_k2_W1] at n_k2
  have n_b:Below w.heap.size w V2:=by rw [hV_V2];(repeat' first|with_reducible assumption|with_reducible exact Below.refl _ _|with_reducible refine Below.alloc ?_ ?_ _|with_reducible refine Below.setCell ?_ ?_ _|with_reducible refine below_drewN ?_ _|with_reducible refine Below.drew ?_|exact Nat.le_refl _|((try dsimp only);omega)|(simp only [siz_alloc,siz_set];omega))
  clear k0 c_k0 f_k0
  clear k1 c_k1 f_k1
  clear k2 c_k2 f_k2
  have k0:=n_k0;clear n_k0
  have k1:=n_k1;clear n_k1
  have k2:=n_k2;clear n_k2
  clear hV_V2
  refine (right_yes b (by omega) _).mono ?_
  rintro e_W2 W2 ⟨rfl,hb_W2⟩
  have b2:=below_step n_b hb_W2;clear n_b
  replace k0:=keep_blk hb_W2 k0
  obtain ⟨c_k0,f_k0,l_k0_W2⟩:=f3 k0
  replace k1:=keep_blk hb_W2 k1
  obtain ⟨c_k1,f_k1,l_k1_W2⟩:=f3 k1
  replace k2:=keep_blk hb_W2 k2
  obtain ⟨c_k2,f_k2,l_k2_W2⟩:=f3 k2
  have z_W2:=b2.size
  clear hb_W2
  go_wp2_with fail
  go_region_held3 (fun v=>(∀o,v.cell? ⟨w.heap.size,o,none⟩=W2.cell? ⟨w.heap.size,o,none⟩)∧(∀o,v.cell? ⟨w.heap.size+1,o,none⟩=W2.cell? ⟨w.heap.size+1,o,none⟩)) (refine ⟨?_,?_⟩<;>intro o<;>simp [go_sem, *,World.cell?_setCell_far])
    (fail)
  go_wp2
  refine bodyPost_ret (v:= .tuple #[.agg #[.int .u64 (Go.bits .or .u64 (pack a:Int) (IntKind.u64.wrap ((pack b:Int)*2 ^ a.length))), .int .i64 (IntKind.i64.wrap ((a.length:Int)+(b.length:Int)))], .bool true]) (by simp [results,Tryz.results168,go_sem, *]) rfl ⟨by rw [hv.out.1,hv.out.2],?_⟩
  (repeat' first|with_reducible assumption|with_reducible exact Below.refl _ _|with_reducible refine Below.alloc ?_ ?_ _|with_reducible refine Below.setCell ?_ ?_ _|with_reducible refine below_drewN ?_ _|with_reducible refine Below.drew ?_|exact Nat.le_refl _|((try dsimp only);omega)|(simp only [siz_alloc,siz_set];omega))
set_option maxHeartbeats 400000 in
theorem join_long (a b : List Bool) (ha : a.length ≤ 64) (hb : b.length ≤ 64) (h : 64 < a.length + b.length) (w : World) :
    Calls Tryz.prog 168 #[.agg #[.int .u64 (pack a:Int), .int .i64 (a.length:Int)], .agg #[.int .u64 (pack b:Int), .int .i64 (b.length:Int)]] w fun e w'=>
      e= .returned (.tuple #[.agg #[.int .u64 0, .int .i64 0], .bool false])∧Below w.heap.size w w':=by
  have d2:decide ((64:Int)<(a.length:Int)+(b.length:Int))=true:=by simp;omega
  go_enter Tryz.func168,Tryz.ntmps168
  go_wp2_with fail
  refine calls_gen fun V1 hV_V1=> ?_
  have n_k0:=congrArg (fun v:World=>v.heap[w.heap.size]?) hV_V1
  have n_k1:=congrArg (fun v:World=>v.heap[w.heap.size+1]?) hV_V1
  have n_k2:=congrArg (fun v:World=>v.heap[w.heap.size+1+1]?) hV_V1
  simp (maxDischargeDepth:=9) only [BK,not_false_eq_true,reduceCtorEq] at n_k0
  simp (maxDischargeDepth:=9) only [BK,not_false_eq_true,reduceCtorEq] at n_k1
  simp (maxDischargeDepth:=9) only [BK,not_false_eq_true,reduceCtorEq] at n_k2
  have n_b:Below w.heap.size w V1:=by rw [hV_V1];(repeat' first|with_reducible assumption|with_reducible exact Below.refl _ _|with_reducible refine Below.alloc ?_ ?_ _|with_reducible refine Below.setCell ?_ ?_ _|with_reducible refine below_drewN ?_ _|with_reducible refine Below.drew ?_|exact Nat.le_refl _|((try dsimp only);omega)|(simp only [siz_alloc,siz_set];omega))
  have k0:=n_k0;clear n_k0
  have k1:=n_k1;clear n_k1
  have k2:=n_k2;clear n_k2
  clear hV_V1
  refine (right_yes a ha _).mono ?_
  rintro e_W1 W1 ⟨rfl,hb_W1⟩
  have b1:=below_step n_b hb_W1;clear n_b
  replace k0:=keep_blk hb_W1 k0
  obtain ⟨c_k0,f_k0,l_k0_W1⟩:=f3 k0
  replace k1:=keep_blk hb_W1 k1
  obtain ⟨c_k1,f_k1,l_k1_W1⟩:=f3 k1
  replace k2:=keep_blk hb_W1 k2
  obtain ⟨c_k2,f_k2,l_k2_W1⟩:=f3 k2
  have z_W1:=b1.size
  clear hb_W1
  go_wp2_with fail
  refine calls_gen fun V2 hV_V2=> ?_
  have n_k0:=congrArg (fun v:World=>v.heap[w.heap.size]?) hV_V2
  have n_k1:=congrArg (fun v:World=>v.heap[w.heap.size+1]?) hV_V2
  have n_k2:=congrArg (fun v:World=>v.heap[w.heap.size+1+1]?) hV_V2
  simp (maxDischargeDepth:=9) only [BK,not_false_eq_true,reduceCtorEq,k0,k1,k2,l_k0_W1,l_k1_W1,l_k2_W1] at n_k0
  simp (maxDischargeDepth:=9) only [BK,not_false_eq_true,reduceCtorEq,k0,k1,k2,l_k0_W1,l_k1_W1,l_k2_W1] at n_k1
  simp (maxDischargeDepth:=9) only [BK,not_false_eq_true,reduceCtorEq,k0,k1,k2,l_k0_W1,l_k1_W1,l_k2_W1] at n_k2
  have n_b:Below w.heap.size w V2:=by rw [hV_V2];(repeat' first|with_reducible assumption|with_reducible exact Below.refl _ _|with_reducible refine Below.alloc ?_ ?_ _|with_reducible refine Below.setCell ?_ ?_ _|with_reducible refine below_drewN ?_ _|with_reducible refine Below.drew ?_|exact Nat.le_refl _|((try dsimp only);omega)|(simp only [siz_alloc,siz_set];omega))
  clear k0 c_k0 f_k0
  clear k1 c_k1 f_k1
  clear k2 c_k2 f_k2
  have k0:=n_k0;clear n_k0
  have k1:=n_k1;clear n_k1
  have k2:=n_k2;clear n_k2
  clear hV_V2
  refine (right_yes b hb _).mono ?_
  rintro e_W2 W2 ⟨rfl,hb_W2⟩
  have b2:=below_step n_b hb_W2;clear n_b
  replace k0:=keep_blk hb_W2 k0
  obtain ⟨c_k0,f_k0,l_k0_W2⟩:=f3 k0
  replace k1:=keep_blk hb_W2 k1
  obtain ⟨c_k1,f_k1,l_k1_W2⟩:=f3 k1
  replace k2:=keep_blk hb_W2 k2
  obtain ⟨c_k2,f_k2,l_k2_W2⟩:=f3 k2
  have z_W2:=b2.size
  clear hb_W2
  go_wp2
  refine bodyPost_ret (v:= .tuple #[.agg #[.int .u64 0, .int .i64 0], .bool false]) (by simp [results,Tryz.results168,go_sem, *]) rfl ⟨rfl,?_⟩
  (repeat' first|with_reducible assumption|with_reducible exact Below.refl _ _|with_reducible refine Below.alloc ?_ ?_ _|with_reducible refine Below.setCell ?_ ?_ _|with_reducible refine below_drewN ?_ _|with_reducible refine Below.drew ?_|exact Nat.le_refl _|((try dsimp only);omega)|(simp only [siz_alloc,siz_set];omega))
set_option maxHeartbeats 400000 in
theorem join_no1 (b : Nat) (n : Int) (hb : b < 2 ^ 64) (h : ¬ Rt b n) (x y : Int) (w : World) :
    Calls Tryz.prog 168 #[.agg #[.int .u64 (b:Int), .int .i64 n], .agg #[.int .u64 x, .int .i64 y]] w fun e w'=>
      e= .returned (.tuple #[.agg #[.int .u64 0, .int .i64 0], .bool false])∧Below w.heap.size w w':=by
  go_enter Tryz.func168,Tryz.ntmps168
  go_wp2_with fail
  refine calls_gen fun V1 hV_V1=> ?_
  have n_k0:=congrArg (fun v:World=>v.heap[w.heap.size]?) hV_V1
  have n_k1:=congrArg (fun v:World=>v.heap[w.heap.size+1]?) hV_V1
  have n_k2:=congrArg (fun v:World=>v.heap[w.heap.size+1+1]?) hV_V1
  simp (maxDischargeDepth:=9) only [BK,not_false_eq_true,reduceCtorEq] at n_k0
  simp (maxDischargeDepth:=9) only [BK,not_false_eq_true,reduceCtorEq] at n_k1
  simp (maxDischargeDepth:=9) only [BK,not_false_eq_true,reduceCtorEq] at n_k2
  have n_b:Below w.heap.size w V1:=by rw [hV_V1];(repeat' first|with_reducible assumption|with_reducible exact Below.refl _ _|with_reducible refine Below.alloc ?_ ?_ _|with_reducible refine Below.setCell ?_ ?_ _|with_reducible refine below_drewN ?_ _|with_reducible refine Below.drew ?_|exact Nat.le_refl _|((try dsimp only);omega)|(simp only [siz_alloc,siz_set];omega))
  have k0:=n_k0;clear n_k0
  have k1:=n_k1;clear n_k1
  have k2:=n_k2;clear n_k2
  clear hV_V1
  refine (right_no b n hb h _).mono ?_
  rintro e_W1 W1 ⟨rfl,hb_W1⟩
  have b1:=below_step n_b hb_W1;clear n_b
  replace k0:=keep_blk hb_W1 k0
  obtain ⟨c_k0,f_k0,l_k0_W1⟩:=f3 k0
  replace k1:=keep_blk hb_W1 k1
  obtain ⟨c_k1,f_k1,l_k1_W1⟩:=f3 k1
  replace k2:=keep_blk hb_W1 k2
  obtain ⟨c_k2,f_k2,l_k2_W1⟩:=f3 k2
  have z_W1:=b1.size
  clear hb_W1
  go_wp2
  refine bodyPost_ret (v:= .tuple #[.agg #[.int .u64 0, .int .i64 0], .bool false]) (by simp [results,Tryz.results168,go_sem, *]) rfl ⟨rfl,?_⟩
  (repeat' first|with_reducible assumption|with_reducible exact Below.refl _ _|with_reducible refine Below.alloc ?_ ?_ _|with_reducible refine Below.setCell ?_ ?_ _|with_reducible refine below_drewN ?_ _|with_reducible refine Below.drew ?_|exact Nat.le_refl _|((try dsimp only);omega)|(simp only [siz_alloc,siz_set];omega))
set_option maxHeartbeats 400000 in
theorem join_no2 (a : List Bool) (ha : a.length ≤ 64) (b : Nat) (n : Int) (hb : b < 2 ^ 64) (h : ¬ Rt b n) (w : World) :
    Calls Tryz.prog 168 #[.agg #[.int .u64 (pack a:Int), .int .i64 (a.length:Int)], .agg #[.int .u64 (b:Int), .int .i64 n]] w fun e w'=>
      e= .returned (.tuple #[.agg #[.int .u64 0, .int .i64 0], .bool false])∧Below w.heap.size w w':=by
  go_enter Tryz.func168,Tryz.ntmps168
  go_wp2_with fail
  refine calls_gen fun V1 hV_V1=> ?_
  have n_k0:=congrArg (fun v:World=>v.heap[w.heap.size]?) hV_V1
  have n_k1:=congrArg (fun v:World=>v.heap[w.heap.size+1]?) hV_V1
  have n_k2:=congrArg (fun v:World=>v.heap[w.heap.size+1+1]?) hV_V1
  simp (maxDischargeDepth:=9) only [BK,not_false_eq_true,reduceCtorEq] at n_k0
  simp (maxDischargeDepth:=9) only [BK,not_false_eq_true,reduceCtorEq] at n_k1
  simp (maxDischargeDepth:=9) only [BK,not_false_eq_true,reduceCtorEq] at n_k2
  have n_b:Below w.heap.size w V1:=by rw [hV_V1];(repeat' first|with_reducible assumption|with_reducible exact Below.refl _ _|with_reducible refine Below.alloc ?_ ?_ _|with_reducible refine Below.setCell ?_ ?_ _|with_reducible refine below_drewN ?_ _|with_reducible refine Below.drew ?_|exact Nat.le_refl _|((try dsimp only);omega)|(simp only [siz_alloc,siz_set];omega))
  have k0:=n_k0;clear n_k0
  have k1:=n_k1;clear n_k1
  have k2:=n_k2;clear n_k2
  clear hV_V1
  refine (right_yes a ha _).mono ?_
  rintro e_W1 W1 ⟨rfl,hb_W1⟩
  have b1:=below_step n_b hb_W1;clear n_b
  replace k0:=keep_blk hb_W1 k0
  obtain ⟨c_k0,f_k0,l_k0_W1⟩:=f3 k0
  replace k1:=keep_blk hb_W1 k1
  obtain ⟨c_k1,f_k1,l_k1_W1⟩:=f3 k1
  replace k2:=keep_blk hb_W1 k2
  obtain ⟨c_k2,f_k2,l_k2_W1⟩:=f3 k2
  have z_W1:=b1.size
  clear hb_W1
  go_wp2_with fail
  refine calls_gen fun V2 hV_V2=> ?_
  have n_k0:=congrArg (fun v:World=>v.heap[w.heap.size]?) hV_V2
  have n_k1:=congrArg (fun v:World=>v.heap[w.heap.size+1]?) hV_V2
  have n_k2:=congrArg (fun v:World=>v.heap[w.heap.size+1+1]?) hV_V2
  simp (maxDischargeDepth:=9) only [BK,not_false_eq_true,reduceCtorEq,k0,k1,k2,l_k0_W1,l_k1_W1,l_k2_W1] at n_k0
  simp (maxDischargeDepth:=9) only [BK,not_false_eq_true,reduceCtorEq,k0,k1,k2,l_k0_W1,l_k1_W1,l_k2_W1] at n_k1
  simp (maxDischargeDepth:=9) only [BK,not_false_eq_true,reduceCtorEq,k0,k1,k2,l_k0_W1,l_k1_W1,l_k2_W1] at n_k2
  have n_b:Below w.heap.size w V2:=by rw [hV_V2];(repeat' first|with_reducible assumption|with_reducible exact Below.refl _ _|with_reducible refine Below.alloc ?_ ?_ _|with_reducible refine Below.setCell ?_ ?_ _|with_reducible refine below_drewN ?_ _|with_reducible refine Below.drew ?_|exact Nat.le_refl _|((try dsimp only);omega)|(simp only [siz_alloc,siz_set];omega))
  clear k0 c_k0 f_k0
  clear k1 c_k1 f_k1
  clear k2 c_k2 f_k2
  have k0:=n_k0;clear n_k0
  have k1:=n_k1;clear n_k1
  have k2:=n_k2;clear n_k2
  clear hV_V2
  refine (right_no b n hb h _).mono ?_
  rintro e_W2 W2 ⟨rfl,hb_W2⟩
  have b2:=below_step n_b hb_W2;clear n_b
  replace k0:=keep_blk hb_W2 k0
  obtain ⟨c_k0,f_k0,l_k0_W2⟩:=f3 k0
  replace k1:=keep_blk hb_W2 k1
  obtain ⟨c_k1,f_k1,l_k1_W2⟩:=f3 k1
  replace k2:=keep_blk hb_W2 k2
  obtain ⟨c_k2,f_k2,l_k2_W2⟩:=f3 k2
  have z_W2:=b2.size
  clear hb_W2
  go_wp2
  refine bodyPost_ret (v:= .tuple #[.agg #[.int .u64 0, .int .i64 0], .bool false]) (by simp [results,Tryz.results168,go_sem, *]) rfl ⟨rfl,?_⟩
  (repeat' first|with_reducible assumption|with_reducible exact Below.refl _ _|with_reducible refine Below.alloc ?_ ?_ _|with_reducible refine Below.setCell ?_ ?_ _|with_reducible refine below_drewN ?_ _|with_reducible refine Below.drew ?_|exact Nat.le_refl _|((try dsimp only);omega)|(simp only [siz_alloc,siz_set];omega))
theorem split_at (l : List Bool) (hl : l.length ≤ 64) (x y : List Bool) (i : Int) (hx : x = l.take i.toNat) (hy : y = l.drop i.toNat) (A n : Int) (hA : A = pack l) (hn : n = l.length) (w : World) :
    Calls Tryz.prog 143 #[.agg #[.int .u64 A, .int .i64 n], .int .i64 i] w fun e w'=>
      e= .returned (.tuple #[.agg #[.int .u64 (pack x:Int), .int .i64 (x.length:Int)], .agg #[.int .u64 (pack y:Int), .int .i64 (y.length:Int)]])∧Below w.heap.size w w':=by
  subst hx hy hA hn;exact split_list l hl i w
theorem join_at (a b c : List Bool) (h : a.length + b.length ≤ 64) (A n B m : Int) (hA : A = pack a) (hn : n = a.length) (hB : B = pack b) (hm : m = b.length) (hc : c = a ++ b) (w : World) :
    Calls Tryz.prog 168 #[.agg #[.int .u64 A, .int .i64 n], .agg #[.int .u64 B, .int .i64 m]] w fun e w'=>
      e= .returned (.tuple #[.agg #[.int .u64 (pack c:Int), .int .i64 (c.length:Int)], .bool true])∧Below w.heap.size w w':=by
  subst hA hn hB hm hc;exact join_yes a b h w
theorem pack_snoc (l:List Bool) (one:Bool):pack (l++[one])=pack l+2 ^ l.length*one.toNat:=by rw [pack_append];simp [pack]
theorem or_bit (l:List Bool) (h:l.length<64):Go.bits .or .u64 (pack l:Int) (IntKind.u64.wrap (2 ^ l.length))=(pack (l++[true]):Int):=by
  have h1:=pack_lt64 (l:=l++[true]) (by simp;omega)
  rw [pack_snoc] at h1⊢
  have e:(2:Int) ^ l.length=((2 ^ l.length*1:Nat):Int):=by simp
  simp only [Bool.toNat_true] at h1⊢
  rw [e,wrap_u64 (by omega) (by omega),or_shift _ _ _ (pack_lt l) h1]
theorem insL_length (l:List Bool) (i:Nat) (one:Bool):(insL l i one).length=l.length+1:=by simp [insL];omega
set_option maxHeartbeats 400000 in
theorem insert_yes (l : List Bool) (i : Nat) (one : Bool) (hi : i ≤ l.length) (hl : l.length < 64) (w : World) :
    Calls Tryz.prog 141 #[.agg #[.int .u64 (pack l:Int), .int .i64 (l.length:Int)], .int .i64 (i:Int), .bool one] w fun e w'=>
      e= .returned (.tuple #[.agg #[.int .u64 (pack (insL l i one):Int), .int .i64 ((insL l i one).length:Int)], .bool true])∧Below w.heap.size w w':=by
  have d1:decide ((i:Int)<0)=false:=by simp
  have d2:decide ((l.length:Int)<(i:Int))=false:=by simp;omega
  have d3:((l.length:Int)==64)=false:=by simp;omega
  obtain ⟨x,hx⟩: ∃x,x=l.take i:=⟨_,rfl⟩
  obtain ⟨y,hy⟩: ∃y,y=l.drop i:=⟨_,rfl⟩
  obtain ⟨c,hc⟩: ∃c,c=insL l i one:=⟨_,rfl⟩
  have hxl:x.length=i:=by rw [hx];simp;omega
  have hsum:x.length+y.length=l.length:=by rw [hx,hy];simp;omega
  have HX:=Lib.hid hx;have HY:=Lib.hid hy
  have HC:Hid (c=(x++[one])++y):=by show _=_;rw [hc,hx,hy];simp [insL]
  rw [←hc]
  have hs1:x.length≤63:=by omega
  have hs2:x.length+1+y.length≤64:=by omega
  have hu:=Lib.hid (or_bit x (by omega))
  have hxi:=Lib.hid hxl
  have e0:=Lib.hid (pack_snoc x false)
  clear hx hy hc hsum hxl
  cases one
  · go_enter Tryz.func141,Tryz.ntmps141
    go_wp2_with fail
    refine calls_gen fun V1 hV_V1=> ?_
    have n_k0:=congrArg (fun v:World=>v.heap[w.heap.size]?) hV_V1
    have n_k1:=congrArg (fun v:World=>v.heap[w.heap.size+1]?) hV_V1
    simp (maxDischargeDepth:=9) only [BK,not_false_eq_true,reduceCtorEq] at n_k0
    simp (maxDischargeDepth:=9) only [BK,not_false_eq_true,reduceCtorEq] at n_k1
    have n_b:Below w.heap.size w V1:=by rw [hV_V1];(repeat' first|with_reducible assumption|with_reducible exact Below.refl _ _|with_reducible refine Below.alloc ?_ ?_ _|with_reducible refine Below.setCell ?_ ?_ _|with_reducible refine below_drewN ?_ _|with_reducible refine Below.drew ?_|exact Nat.le_refl _|((try dsimp only);omega)|(simp only [siz_alloc,siz_set];omega))
    have k0:=n_k0;clear n_k0
    have k1:=n_k1;clear n_k1
    clear hV_V1
    refine (right_yes l (by omega) _).mono ?_
    rintro e_W1 W1 ⟨rfl,hb_W1⟩
    have b1:=below_step n_b hb_W1;clear n_b
    replace k0:=keep_blk hb_W1 k0
    obtain ⟨c_k0,f_k0,l_k0_W1⟩:=f3 k0
    replace k1:=keep_blk hb_W1 k1
    obtain ⟨c_k1,f_k1,l_k1_W1⟩:=f3 k1
    have z_W1:=b1.size
    clear hb_W1
    go_wp2_with fail
    refine calls_gen fun V2 hV_V2=> ?_
    have n_k0:=congrArg (fun v:World=>v.heap[w.heap.size]?) hV_V2
    have n_k1:=congrArg (fun v:World=>v.heap[w.heap.size+1]?) hV_V2
    simp (maxDischargeDepth:=9) only [BK,not_false_eq_true,reduceCtorEq,k0,k1,l_k0_W1,l_k1_W1] at n_k0
    simp (maxDischargeDepth:=9) only [BK,not_false_eq_true,reduceCtorEq,k0,k1,l_k0_W1,l_k1_W1] at n_k1
    have n_b:Below w.heap.size w V2:=by rw [hV_V2];(repeat' first|with_reducible assumption|with_reducible exact Below.refl _ _|with_reducible refine Below.alloc ?_ ?_ _|with_reducible refine Below.setCell ?_ ?_ _|with_reducible refine below_drewN ?_ _|with_reducible refine Below.drew ?_|exact Nat.le_refl _|((try dsimp only);omega)|(simp only [siz_alloc,siz_set];omega))
    clear k0 c_k0 f_k0
    clear k1 c_k1 f_k1
    have k0:=n_k0;clear n_k0
    have k1:=n_k1;clear n_k1
    clear hV_V2
    refine (split_at l (by omega) x y _ (by rw [HX.out];simp) (by rw [HY.out];simp) _ _ rfl rfl _).mono ?_
    rintro e_W2 W2 ⟨rfl,hb_W2⟩
    have b2:=below_step n_b hb_W2;clear n_b
    replace k0:=keep_blk hb_W2 k0
    obtain ⟨c_k0,f_k0,l_k0_W2⟩:=f3 k0
    replace k1:=keep_blk hb_W2 k1
    obtain ⟨c_k1,f_k1,l_k1_W2⟩:=f3 k1
    have z_W2:=b2.size
    clear hb_W2
    go_wp2_with fail
    refine calls_gen fun V3 hV_V3=> ?_
    have n_k0:=congrArg (fun v:World=>v.heap[w.heap.size]?) hV_V3
    have n_k1:=congrArg (fun v:World=>v.heap[w.heap.size+1]?) hV_V3
    simp (maxDischargeDepth:=9) only [BK,not_false_eq_true,reduceCtorEq,k0,k1,l_k0_W1,l_k1_W1,l_k0_W2,l_k1_W2] at n_k0
    simp (maxDischargeDepth:=9) only [BK,not_false_eq_true,reduceCtorEq,k0,k1,l_k0_W1,l_k1_W1,l_k0_W2,l_k1_W2] at n_k1
    have n_b:Below w.heap.size w V3:=by rw [hV_V3];(repeat' first|with_reducible assumption|with_reducible exact Below.refl _ _|with_reducible refine Below.alloc ?_ ?_ _|with_reducible refine Below.setCell ?_ ?_ _|with_reducible refine below_drewN ?_ _|with_reducible refine Below.drew ?_|exact Nat.le_refl _|((try dsimp only);omega)|(simp only [siz_alloc,siz_set];omega))
    clear k0 c_k0 f_k0
    clear k1 c_k1 f_k1
    have k0:=n_k0;clear n_k0
    have k1:=n_k1;clear n_k1
    clear hV_V3
    refine (join_at (x++[false]) y c (by simp;omega) _ _ _ _ (by rw [e0.out];simp) (by simp) rfl rfl HC.out _).mono ?_
    rintro e_W3 W3 ⟨rfl,hb_W3⟩
    have b3:=below_step n_b hb_W3;clear n_b
    replace k0:=keep_blk hb_W3 k0
    obtain ⟨c_k0,f_k0,l_k0_W3⟩:=f3 k0
    replace k1:=keep_blk hb_W3 k1
    obtain ⟨c_k1,f_k1,l_k1_W3⟩:=f3 k1
    have z_W3:=b3.size
    clear hb_W3
    go_wp2
    refine bodyPost_ret (v:= .tuple #[.agg #[.int .u64 (pack c:Int), .int .i64 (c.length:Int)], .bool true]) (by simp [results,Tryz.results141,go_sem, *]) rfl ⟨rfl,?_⟩
    (repeat' first|with_reducible assumption|with_reducible exact Below.refl _ _|with_reducible refine Below.alloc ?_ ?_ _|with_reducible refine Below.setCell ?_ ?_ _|with_reducible refine below_drewN ?_ _|with_reducible refine Below.drew ?_|exact Nat.le_refl _|((try dsimp only);omega)|(simp only [siz_alloc,siz_set];omega))
  · go_enter Tryz.func141,Tryz.ntmps141
    go_wp2_with fail
    refine calls_gen fun V1 hV_V1=> ?_
    have n_k0:=congrArg (fun v:World=>v.heap[w.heap.size]?) hV_V1
    have n_k1:=congrArg (fun v:World=>v.heap[w.heap.size+1]?) hV_V1
    simp (maxDischargeDepth:=9) only [BK,not_false_eq_true,reduceCtorEq] at n_k0
    simp (maxDischargeDepth:=9) only [BK,not_false_eq_true,reduceCtorEq] at n_k1
    have n_b:Below w.heap.size w V1:=by rw [hV_V1];(repeat' first|with_reducible assumption|with_reducible exact Below.refl _ _|with_reducible refine Below.alloc ?_ ?_ _|with_reducible refine Below.setCell ?_ ?_ _|with_reducible refine below_drewN ?_ _|with_reducible refine Below.drew ?_|exact Nat.le_refl _|((try dsimp only);omega)|(simp only [siz_alloc,siz_set];omega))
    have k0:=n_k0;clear n_k0
    have k1:=n_k1;clear n_k1
    clear hV_V1
    refine (right_yes l (by omega) _).mono ?_
    rintro e_W1 W1 ⟨rfl,hb_W1⟩
    have b1:=below_step n_b hb_W1;clear n_b
    replace k0:=keep_blk hb_W1 k0
    obtain ⟨c_k0,f_k0,l_k0_W1⟩:=f3 k0
    replace k1:=keep_blk hb_W1 k1
    obtain ⟨c_k1,f_k1,l_k1_W1⟩:=f3 k1
    have z_W1:=b1.size
    clear hb_W1
    go_wp2_with fail
    refine calls_gen fun V2 hV_V2=> ?_
    have n_k0:=congrArg (fun v:World=>v.heap[w.heap.size]?) hV_V2
    have n_k1:=congrArg (fun v:World=>v.heap[w.heap.size+1]?) hV_V2
    simp (maxDischargeDepth:=9) only [BK,not_false_eq_true,reduceCtorEq,k0,k1,l_k0_W1,l_k1_W1] at n_k0
    simp (maxDischargeDepth:=9) only [BK,not_false_eq_true,reduceCtorEq,k0,k1,l_k0_W1,l_k1_W1] at n_k1
    have n_b:Below w.heap.size w V2:=by rw [hV_V2];(repeat' first|with_reducible assumption|with_reducible exact Below.refl _ _|with_reducible refine Below.alloc ?_ ?_ _|with_reducible refine Below.setCell ?_ ?_ _|with_reducible refine below_drewN ?_ _|with_reducible refine Below.drew ?_|exact Nat.le_refl _|((try dsimp only);omega)|(simp only [siz_alloc,siz_set];omega))
    clear k0 c_k0 f_k0
    clear k1 c_k1 f_k1
    have k0:=n_k0;clear n_k0
    have k1:=n_k1;clear n_k1
    clear hV_V2
    refine (split_at l (by omega) x y _ (by rw [HX.out];simp) (by rw [HY.out];simp) _ _ rfl rfl _).mono ?_
    rintro e_W2 W2 ⟨rfl,hb_W2⟩
    have b2:=below_step n_b hb_W2;clear n_b
    replace k0:=keep_blk hb_W2 k0
    obtain ⟨c_k0,f_k0,l_k0_W2⟩:=f3 k0
    replace k1:=keep_blk hb_W2 k1
    obtain ⟨c_k1,f_k1,l_k1_W2⟩:=f3 k1
    have z_W2:=b2.size
    clear hb_W2
    go_wp2_with fail
    go_region
    go_wp2_with fail
    refine calls_gen fun V3 hV_V3=> ?_
    have n_k0:=congrArg (fun v:World=>v.heap[w.heap.size]?) hV_V3
    have n_k1:=congrArg (fun v:World=>v.heap[w.heap.size+1]?) hV_V3
    simp (maxDischargeDepth:=9) only [BK,not_false_eq_true,reduceCtorEq,k0,k1,l_k0_W1,l_k1_W1,l_k0_W2,l_k1_W2] at n_k0
    simp (maxDischargeDepth:=9) only [BK,not_false_eq_true,reduceCtorEq,k0,k1,l_k0_W1,l_k1_W1,l_k0_W2,l_k1_W2] at n_k1
    have n_b:Below w.heap.size w V3:=by rw [hV_V3];(repeat' first|with_reducible assumption|with_reducible exact Below.refl _ _|with_reducible refine Below.alloc ?_ ?_ _|with_reducible refine Below.setCell ?_ ?_ _|with_reducible refine below_drewN ?_ _|with_reducible refine Below.drew ?_|exact Nat.le_refl _|((try dsimp only);omega)|(simp only [siz_alloc,siz_set];omega))
    clear k0 c_k0 f_k0
    clear k1 c_k1 f_k1
    have k0:=n_k0;clear n_k0
    have k1:=n_k1;clear n_k1
    clear hV_V3
    refine (join_at (x++[true]) y c (by simp;omega) _ _ _ _ (by rw [←hu.out,hxi.out]) (by simp) rfl rfl HC.out _).mono ?_
    rintro e_W3 W3 ⟨rfl,hb_W3⟩
    have b3:=below_step n_b hb_W3;clear n_b
    replace k0:=keep_blk hb_W3 k0
    obtain ⟨c_k0,f_k0,l_k0_W3⟩:=f3 k0
    replace k1:=keep_blk hb_W3 k1
    obtain ⟨c_k1,f_k1,l_k1_W3⟩:=f3 k1
    have z_W3:=b3.size
    clear hb_W3
    go_wp2
    refine bodyPost_ret (v:= .tuple #[.agg #[.int .u64 (pack c:Int), .int .i64 (c.length:Int)], .bool true]) (by simp [results,Tryz.results141,go_sem, *]) rfl ⟨rfl,?_⟩
    (repeat' first|with_reducible assumption|with_reducible exact Below.refl _ _|with_reducible refine Below.alloc ?_ ?_ _|with_reducible refine Below.setCell ?_ ?_ _|with_reducible refine below_drewN ?_ _|with_reducible refine Below.drew ?_|exact Nat.le_refl _|((try dsimp only);omega)|(simp only [siz_alloc,siz_set];omega))
set_option maxHeartbeats 400000 in
theorem insert_out (l : List Bool) (hl : l.length ≤ 64) (i : Int) (one : Bool) (hi : i < 0 ∨ l.length < i ∨ l.length = 64) (w : World) :
    Calls Tryz.prog 141 #[.agg #[.int .u64 (pack l:Int), .int .i64 (l.length:Int)], .int .i64 i, .bool one] w fun e w'=>
      e= .returned (.tuple #[.agg #[.int .u64 0, .int .i64 0], .bool false])∧Below w.heap.size w w':=by
  by_cases h1:i<0
  · have d1:decide (i<0)=true:=by simpa using h1
    go_enter Tryz.func141,Tryz.ntmps141
    go_wp2_with fail
    refine calls_gen fun V1 hV_V1=> ?_
    have n_k0:=congrArg (fun v:World=>v.heap[w.heap.size]?) hV_V1
    have n_k1:=congrArg (fun v:World=>v.heap[w.heap.size+1]?) hV_V1
    simp (maxDischargeDepth:=9) only [BK,not_false_eq_true,reduceCtorEq] at n_k0
    simp (maxDischargeDepth:=9) only [BK,not_false_eq_true,reduceCtorEq] at n_k1
    have n_b:Below w.heap.size w V1:=by rw [hV_V1];(repeat' first|with_reducible assumption|with_reducible exact Below.refl _ _|with_reducible refine Below.alloc ?_ ?_ _|with_reducible refine Below.setCell ?_ ?_ _|with_reducible refine below_drewN ?_ _|with_reducible refine Below.drew ?_|exact Nat.le_refl _|((try dsimp only);omega)|(simp only [siz_alloc,siz_set];omega))
    have k0:=n_k0;clear n_k0
    have k1:=n_k1;clear n_k1
    clear hV_V1
    refine (right_yes l hl _).mono ?_
    rintro e_W1 W1 ⟨rfl,hb_W1⟩
    have b1:=below_step n_b hb_W1;clear n_b
    replace k0:=keep_blk hb_W1 k0
    obtain ⟨c_k0,f_k0,l_k0_W1⟩:=f3 k0
    replace k1:=keep_blk hb_W1 k1
    obtain ⟨c_k1,f_k1,l_k1_W1⟩:=f3 k1
    have z_W1:=b1.size
    clear hb_W1
    go_wp2
    refine bodyPost_ret (v:= .tuple #[.agg #[.int .u64 0, .int .i64 0], .bool false]) (by simp [results,Tryz.results141,go_sem, *]) rfl ⟨rfl,?_⟩
    (repeat' first|with_reducible assumption|with_reducible exact Below.refl _ _|with_reducible refine Below.alloc ?_ ?_ _|with_reducible refine Below.setCell ?_ ?_ _|with_reducible refine below_drewN ?_ _|with_reducible refine Below.drew ?_|exact Nat.le_refl _|((try dsimp only);omega)|(simp only [siz_alloc,siz_set];omega))
  · have d1:decide (i<0)=false:=by simp;omega
    by_cases h2:l.length<i
    · have d2:decide ((l.length:Int)<i)=true:=by simpa using h2
      go_enter Tryz.func141,Tryz.ntmps141
      go_wp2_with fail
      refine calls_gen fun V1 hV_V1=> ?_
      have n_k0:=congrArg (fun v:World=>v.heap[w.heap.size]?) hV_V1
      have n_k1:=congrArg (fun v:World=>v.heap[w.heap.size+1]?) hV_V1
      simp (maxDischargeDepth:=9) only [BK,not_false_eq_true,reduceCtorEq] at n_k0
      simp (maxDischargeDepth:=9) only [BK,not_false_eq_true,reduceCtorEq] at n_k1
      have n_b:Below w.heap.size w V1:=by rw [hV_V1];(repeat' first|with_reducible assumption|with_reducible exact Below.refl _ _|with_reducible refine Below.alloc ?_ ?_ _|with_reducible refine Below.setCell ?_ ?_ _|with_reducible refine below_drewN ?_ _|with_reducible refine Below.drew ?_|exact Nat.le_refl _|((try dsimp only);omega)|(simp only [siz_alloc,siz_set];omega))
      have k0:=n_k0;clear n_k0
      have k1:=n_k1;clear n_k1
      clear hV_V1
      refine (right_yes l hl _).mono ?_
      rintro e_W1 W1 ⟨rfl,hb_W1⟩
      have b1:=below_step n_b hb_W1;clear n_b
      replace k0:=keep_blk hb_W1 k0
      obtain ⟨c_k0,f_k0,l_k0_W1⟩:=f3 k0
      replace k1:=keep_blk hb_W1 k1
      obtain ⟨c_k1,f_k1,l_k1_W1⟩:=f3 k1
      have z_W1:=b1.size
      clear hb_W1
      go_wp2
      refine bodyPost_ret (v:= .tuple #[.agg #[.int .u64 0, .int .i64 0], .bool false]) (by simp [results,Tryz.results141,go_sem, *]) rfl ⟨rfl,?_⟩
      (repeat' first|with_reducible assumption|with_reducible exact Below.refl _ _|with_reducible refine Below.alloc ?_ ?_ _|with_reducible refine Below.setCell ?_ ?_ _|with_reducible refine below_drewN ?_ _|with_reducible refine Below.drew ?_|exact Nat.le_refl _|((try dsimp only);omega)|(simp only [siz_alloc,siz_set];omega))
    · have d2:decide ((l.length:Int)<i)=false:=by simp;omega
      have d3:((l.length:Int)==64)=true:=by simp;omega
      clear hi
      go_enter Tryz.func141,Tryz.ntmps141
      go_wp2_with fail
      refine calls_gen fun V1 hV_V1=> ?_
      have n_k0:=congrArg (fun v:World=>v.heap[w.heap.size]?) hV_V1
      have n_k1:=congrArg (fun v:World=>v.heap[w.heap.size+1]?) hV_V1
      simp (maxDischargeDepth:=9) only [BK,not_false_eq_true,reduceCtorEq] at n_k0
      simp (maxDischargeDepth:=9) only [BK,not_false_eq_true,reduceCtorEq] at n_k1
      have n_b:Below w.heap.size w V1:=by rw [hV_V1];(repeat' first|with_reducible assumption|with_reducible exact Below.refl _ _|with_reducible refine Below.alloc ?_ ?_ _|with_reducible refine Below.setCell ?_ ?_ _|with_reducible refine below_drewN ?_ _|with_reducible refine Below.drew ?_|exact Nat.le_refl _|((try dsimp only);omega)|(simp only [siz_alloc,siz_set];omega))
      have k0:=n_k0;clear n_k0
      have k1:=n_k1;clear n_k1
      clear hV_V1
      refine (right_yes l hl _).mono ?_
      rintro e_W1 W1 ⟨rfl,hb_W1⟩
      have b1:=below_step n_b hb_W1;clear n_b
      replace k0:=keep_blk hb_W1 k0
      obtain ⟨c_k0,f_k0,l_k0_W1⟩:=f3 k0
      replace k1:=keep_blk hb_W1 k1
      obtain ⟨c_k1,f_k1,l_k1_W1⟩:=f3 k1
      have z_W1:=b1.size
      clear hb_W1
      go_wp2
      refine bodyPost_ret (v:= .tuple #[.agg #[.int .u64 0, .int .i64 0], .bool false]) (by simp [results,Tryz.results141,go_sem, *]) rfl ⟨rfl,?_⟩
      (repeat' first|with_reducible assumption|with_reducible exact Below.refl _ _|with_reducible refine Below.alloc ?_ ?_ _|with_reducible refine Below.setCell ?_ ?_ _|with_reducible refine below_drewN ?_ _|with_reducible refine Below.drew ?_|exact Nat.le_refl _|((try dsimp only);omega)|(simp only [siz_alloc,siz_set];omega))
set_option maxHeartbeats 400000 in
theorem insert_no (b : Nat) (n : Int) (hb : b < 2 ^ 64) (h : ¬ Rt b n) (i : Int) (one : Bool) (w : World) :
    Calls Tryz.prog 141 #[.agg #[.int .u64 (b:Int), .int .i64 n], .int .i64 i, .bool one] w fun e w'=>
      e= .returned (.tuple #[.agg #[.int .u64 0, .int .i64 0], .bool false])∧Below w.heap.size w w':=by
  go_enter Tryz.func141,Tryz.ntmps141
  go_wp2_with fail
  refine calls_gen fun V1 hV_V1=> ?_
  have n_k0:=congrArg (fun v:World=>v.heap[w.heap.size]?) hV_V1
  have n_k1:=congrArg (fun v:World=>v.heap[w.heap.size+1]?) hV_V1
  simp (maxDischargeDepth:=9) only [BK,not_false_eq_true,reduceCtorEq] at n_k0
  simp (maxDischargeDepth:=9) only [BK,not_false_eq_true,reduceCtorEq] at n_k1
  have n_b:Below w.heap.size w V1:=by rw [hV_V1];(repeat' first|with_reducible assumption|with_reducible exact Below.refl _ _|with_reducible refine Below.alloc ?_ ?_ _|with_reducible refine Below.setCell ?_ ?_ _|with_reducible refine below_drewN ?_ _|with_reducible refine Below.drew ?_|exact Nat.le_refl _|((try dsimp only);omega)|(simp only [siz_alloc,siz_set];omega))
  have k0:=n_k0;clear n_k0
  have k1:=n_k1;clear n_k1
  clear hV_V1
  refine (right_no b n hb h _).mono ?_
  rintro e_W1 W1 ⟨rfl,hb_W1⟩
  have b1:=below_step n_b hb_W1;clear n_b
  replace k0:=keep_blk hb_W1 k0
  obtain ⟨c_k0,f_k0,l_k0_W1⟩:=f3 k0
  replace k1:=keep_blk hb_W1 k1
  obtain ⟨c_k1,f_k1,l_k1_W1⟩:=f3 k1
  have z_W1:=b1.size
  clear hb_W1
  go_wp2
  refine bodyPost_ret (v:= .tuple #[.agg #[.int .u64 0, .int .i64 0], .bool false]) (by simp [results,Tryz.results141,go_sem, *]) rfl ⟨rfl,?_⟩
  (repeat' first|with_reducible assumption|with_reducible exact Below.refl _ _|with_reducible refine Below.alloc ?_ ?_ _|with_reducible refine Below.setCell ?_ ?_ _|with_reducible refine below_drewN ?_ _|with_reducible refine Below.drew ?_|exact Nat.le_refl _|((try dsimp only);omega)|(simp only [siz_alloc,siz_set];omega))
set_option maxHeartbeats 400000 in
theorem delete_yes (l : List Bool) (i : Nat) (hi : i < l.length) (hl : l.length ≤ 64) (w : World) :
    Calls Tryz.prog 188 #[.agg #[.int .u64 (pack l:Int), .int .i64 (l.length:Int)], .int .i64 (i:Int)] w fun e w'=>
      e= .returned (.tuple #[.agg #[.int .u64 (pack (l.eraseIdx i):Int), .int .i64 ((l.eraseIdx i).length:Int)], .bool true])∧Below w.heap.size w w':=by
  have d1:decide ((i:Int)<0)=false:=by simp
  have d2:decide ((l.length:Int)≤(i:Int))=false:=by simp;omega
  obtain ⟨x,hx⟩: ∃x,x=l.take i:=⟨_,rfl⟩
  obtain ⟨y,hy⟩: ∃y,y=l.drop i:=⟨_,rfl⟩
  obtain ⟨y0,hy0⟩: ∃y0,y0=y.take 1:=⟨_,rfl⟩
  obtain ⟨y1,hy1⟩: ∃y1,y1=y.drop 1:=⟨_,rfl⟩
  obtain ⟨c,hc⟩: ∃c,c=l.eraseIdx i:=⟨_,rfl⟩
  have hyl:y.length≤64:=by rw [hy];simp;omega
  have hs:x.length+y1.length≤64:=by rw [hx,hy1,hy];simp;omega
  have HX:=Lib.hid hx;have HY:=Lib.hid hy;have HY0:=Lib.hid hy0;have HY1:=Lib.hid hy1
  have HC:Hid (c=x++y1):=by show _=_;rw [hc,hx,hy1,hy,List.drop_drop,List.eraseIdx_eq_take_drop_succ]
  rw [←hc]
  clear hx hy hy0 hy1 hc
  go_enter Tryz.func188,Tryz.ntmps188
  go_wp2_with fail
  refine calls_gen fun V1 hV_V1=> ?_
  have n_k0:=congrArg (fun v:World=>v.heap[w.heap.size]?) hV_V1
  have n_k1:=congrArg (fun v:World=>v.heap[w.heap.size+1]?) hV_V1
  simp (maxDischargeDepth:=9) only [BK,not_false_eq_true,reduceCtorEq] at n_k0
  simp (maxDischargeDepth:=9) only [BK,not_false_eq_true,reduceCtorEq] at n_k1
  have n_b:Below w.heap.size w V1:=by rw [hV_V1];(repeat' first|with_reducible assumption|with_reducible exact Below.refl _ _|with_reducible refine Below.alloc ?_ ?_ _|with_reducible refine Below.setCell ?_ ?_ _|with_reducible refine below_drewN ?_ _|with_reducible refine Below.drew ?_|exact Nat.le_refl _|((try dsimp only);omega)|(simp only [siz_alloc,siz_set];omega))
  have k0:=n_k0;clear n_k0
  have k1:=n_k1;clear n_k1
  clear hV_V1
  refine (right_yes l hl _).mono ?_
  rintro e_W1 W1 ⟨rfl,hb_W1⟩
  have b1:=below_step n_b hb_W1;clear n_b
  replace k0:=keep_blk hb_W1 k0
  obtain ⟨c_k0,f_k0,l_k0_W1⟩:=f3 k0
  replace k1:=keep_blk hb_W1 k1
  obtain ⟨c_k1,f_k1,l_k1_W1⟩:=f3 k1
  have z_W1:=b1.size
  clear hb_W1
  go_wp2_with fail
  refine calls_gen fun V2 hV_V2=> ?_
  have n_k0:=congrArg (fun v:World=>v.heap[w.heap.size]?) hV_V2
  have n_k1:=congrArg (fun v:World=>v.heap[w.heap.size+1]?) hV_V2
  simp (maxDischargeDepth:=9) only [BK,not_false_eq_true,reduceCtorEq,k0,k1,l_k0_W1,l_k1_W1] at n_k0
  simp (maxDischargeDepth:=9) only [BK,not_false_eq_true,reduceCtorEq,k0,k1,l_k0_W1,l_k1_W1] at n_k1
  have n_b:Below w.heap.size w V2:=by rw [hV_V2];(repeat' first|with_reducible assumption|with_reducible exact Below.refl _ _|with_reducible refine Below.alloc ?_ ?_ _|with_reducible refine Below.setCell ?_ ?_ _|with_reducible refine below_drewN ?_ _|with_reducible refine Below.drew ?_|exact Nat.le_refl _|((try dsimp only);omega)|(simp only [siz_alloc,siz_set];omega))
  clear k0 c_k0 f_k0
  clear k1 c_k1 f_k1
  have k0:=n_k0;clear n_k0
  have k1:=n_k1;clear n_k1
  clear hV_V2
  refine (split_at l hl x y _ (by rw [HX.out];simp) (by rw [HY.out];simp) _ _ rfl rfl _).mono ?_
  rintro e_W2 W2 ⟨rfl,hb_W2⟩
  have b2:=below_step n_b hb_W2;clear n_b
  replace k0:=keep_blk hb_W2 k0
  obtain ⟨c_k0,f_k0,l_k0_W2⟩:=f3 k0
  replace k1:=keep_blk hb_W2 k1
  obtain ⟨c_k1,f_k1,l_k1_W2⟩:=f3 k1
  have z_W2:=b2.size
  clear hb_W2
  go_wp2_with fail
  refine calls_gen fun V3 hV_V3=> ?_
  have n_k0:=congrArg (fun v:World=>v.heap[w.heap.size]?) hV_V3
  have n_k1:=congrArg (fun v:World=>v.heap[w.heap.size+1]?) hV_V3
  have n_k2:=congrArg (fun v:World=>v.heap[W2.heap.size]?) hV_V3
  have n_k3:=congrArg (fun v:World=>v.heap[W2.heap.size+1]?) hV_V3
  simp (maxDischargeDepth:=9) only [BK,not_false_eq_true,reduceCtorEq,k0,k1,l_k0_W1,l_k1_W1,l_k0_W2,l_k1_W2] at n_k0
  simp (maxDischargeDepth:=9) only [BK,not_false_eq_true,reduceCtorEq,k0,k1,l_k0_W1,l_k1_W1,l_k0_W2,l_k1_W2] at n_k1
  simp (maxDischargeDepth:=9) only [BK,not_false_eq_true,reduceCtorEq,k0,k1,l_k0_W1,l_k1_W1,l_k0_W2,l_k1_W2] at n_k2
  simp (maxDischargeDepth:=9) only [BK,not_false_eq_true,reduceCtorEq,k0,k1,l_k0_W1,l_k1_W1,l_k0_W2,l_k1_W2] at n_k3
  have n_b:Below w.heap.size w V3:=by rw [hV_V3];(repeat' first|with_reducible assumption|with_reducible exact Below.refl _ _|with_reducible refine Below.alloc ?_ ?_ _|with_reducible refine Below.setCell ?_ ?_ _|with_reducible refine below_drewN ?_ _|with_reducible refine Below.drew ?_|exact Nat.le_refl _|((try dsimp only);omega)|(simp only [siz_alloc,siz_set];omega))
  clear k0 c_k0 f_k0
  clear k1 c_k1 f_k1
  have k0:=n_k0;clear n_k0
  have k1:=n_k1;clear n_k1
  have k2:=n_k2;clear n_k2
  have k3:=n_k3;clear n_k3
  clear hV_V3
  refine (split_at y hyl y0 y1 1 HY0.out HY1.out _ _ rfl rfl _).mono ?_
  rintro e_W3 W3 ⟨rfl,hb_W3⟩
  have b3:=below_step n_b hb_W3;clear n_b
  replace k0:=keep_blk hb_W3 k0
  obtain ⟨c_k0,f_k0,l_k0_W3⟩:=f3 k0
  replace k1:=keep_blk hb_W3 k1
  obtain ⟨c_k1,f_k1,l_k1_W3⟩:=f3 k1
  replace k2:=keep_blk hb_W3 k2
  obtain ⟨c_k2,f_k2,l_k2_W3⟩:=f3 k2
  replace k3:=keep_blk hb_W3 k3
  obtain ⟨c_k3,f_k3,l_k3_W3⟩:=f3 k3
  have z_W3:=b3.size
  clear hb_W3
  go_wp2_with fail
  refine calls_gen fun V4 hV_V4=> ?_
  have n_k0:=congrArg (fun v:World=>v.heap[w.heap.size]?) hV_V4
  have n_k1:=congrArg (fun v:World=>v.heap[w.heap.size+1]?) hV_V4
  simp (maxDischargeDepth:=9) only [BK,not_false_eq_true,reduceCtorEq,k0,k1,k2,k3,l_k0_W1,l_k1_W1,l_k0_W2,l_k1_W2,l_k0_W3,l_k1_W3,l_k2_W3,l_k3_W3] at n_k0
  simp (maxDischargeDepth:=9) only [BK,not_false_eq_true,reduceCtorEq,k0,k1,k2,k3,l_k0_W1,l_k1_W1,l_k0_W2,l_k1_W2,l_k0_W3,l_k1_W3,l_k2_W3,l_k3_W3] at n_k1
  have n_b:Below w.heap.size w V4:=by rw [hV_V4];(repeat' first|with_reducible assumption|with_reducible exact Below.refl _ _|with_reducible refine Below.alloc ?_ ?_ _|with_reducible refine Below.setCell ?_ ?_ _|with_reducible refine below_drewN ?_ _|with_reducible refine Below.drew ?_|exact Nat.le_refl _|((try dsimp only);omega)|(simp only [siz_alloc,siz_set];omega))
  clear k0 c_k0 f_k0
  clear k1 c_k1 f_k1
  clear k2 c_k2 f_k2
  clear k3 c_k3 f_k3
  have k0:=n_k0;clear n_k0
  have k1:=n_k1;clear n_k1
  clear hV_V4
  refine (join_at x y1 c hs _ _ _ _ rfl rfl rfl rfl HC.out _).mono ?_
  rintro e_W4 W4 ⟨rfl,hb_W4⟩
  have b4:=below_step n_b hb_W4;clear n_b
  replace k0:=keep_blk hb_W4 k0
  obtain ⟨c_k0,f_k0,l_k0_W4⟩:=f3 k0
  replace k1:=keep_blk hb_W4 k1
  obtain ⟨c_k1,f_k1,l_k1_W4⟩:=f3 k1
  have z_W4:=b4.size
  clear hb_W4
  go_wp2
  refine bodyPost_ret (v:= .tuple #[.agg #[.int .u64 (pack c:Int), .int .i64 (c.length:Int)], .bool true]) (by simp [results,Tryz.results188,go_sem, *]) rfl ⟨rfl,?_⟩
  (repeat' first|with_reducible assumption|with_reducible exact Below.refl _ _|with_reducible refine Below.alloc ?_ ?_ _|with_reducible refine Below.setCell ?_ ?_ _|with_reducible refine below_drewN ?_ _|with_reducible refine Below.drew ?_|exact Nat.le_refl _|((try dsimp only);omega)|(simp only [siz_alloc,siz_set];omega))
set_option maxHeartbeats 400000 in
theorem delete_out (l : List Bool) (hl : l.length ≤ 64) (i : Int) (hi : i < 0 ∨ l.length ≤ i) (w : World) :
    Calls Tryz.prog 188 #[.agg #[.int .u64 (pack l:Int), .int .i64 (l.length:Int)], .int .i64 i] w fun e w'=>
      e= .returned (.tuple #[.agg #[.int .u64 0, .int .i64 0], .bool false])∧Below w.heap.size w w':=by
  by_cases h1:i<0
  · have d1:decide (i<0)=true:=by simpa using h1
    go_enter Tryz.func188,Tryz.ntmps188
    go_wp2_with fail
    refine calls_gen fun V1 hV_V1=> ?_
    have n_k0:=congrArg (fun v:World=>v.heap[w.heap.size]?) hV_V1
    have n_k1:=congrArg (fun v:World=>v.heap[w.heap.size+1]?) hV_V1
    simp (maxDischargeDepth:=9) only [BK,not_false_eq_true,reduceCtorEq] at n_k0
    simp (maxDischargeDepth:=9) only [BK,not_false_eq_true,reduceCtorEq] at n_k1
    have n_b:Below w.heap.size w V1:=by rw [hV_V1];(repeat' first|with_reducible assumption|with_reducible exact Below.refl _ _|with_reducible refine Below.alloc ?_ ?_ _|with_reducible refine Below.setCell ?_ ?_ _|with_reducible refine below_drewN ?_ _|with_reducible refine Below.drew ?_|exact Nat.le_refl _|((try dsimp only);omega)|(simp only [siz_alloc,siz_set];omega))
    have k0:=n_k0;clear n_k0
    have k1:=n_k1;clear n_k1
    clear hV_V1
    refine (right_yes l hl _).mono ?_
    rintro e_W1 W1 ⟨rfl,hb_W1⟩
    have b1:=below_step n_b hb_W1;clear n_b
    replace k0:=keep_blk hb_W1 k0
    obtain ⟨c_k0,f_k0,l_k0_W1⟩:=f3 k0
    replace k1:=keep_blk hb_W1 k1
    obtain ⟨c_k1,f_k1,l_k1_W1⟩:=f3 k1
    have z_W1:=b1.size
    clear hb_W1
    go_wp2
    refine bodyPost_ret (v:= .tuple #[.agg #[.int .u64 0, .int .i64 0], .bool false]) (by simp [results,Tryz.results188,go_sem, *]) rfl ⟨rfl,?_⟩
    (repeat' first|with_reducible assumption|with_reducible exact Below.refl _ _|with_reducible refine Below.alloc ?_ ?_ _|with_reducible refine Below.setCell ?_ ?_ _|with_reducible refine below_drewN ?_ _|with_reducible refine Below.drew ?_|exact Nat.le_refl _|((try dsimp only);omega)|(simp only [siz_alloc,siz_set];omega))
  · have d1:decide (i<0)=false:=by simp;omega
    have d2:decide ((l.length:Int)≤i)=true:=by simp;omega
    go_enter Tryz.func188,Tryz.ntmps188
    go_wp2_with fail
    refine calls_gen fun V1 hV_V1=> ?_
    have n_k0:=congrArg (fun v:World=>v.heap[w.heap.size]?) hV_V1
    have n_k1:=congrArg (fun v:World=>v.heap[w.heap.size+1]?) hV_V1
    simp (maxDischargeDepth:=9) only [BK,not_false_eq_true,reduceCtorEq] at n_k0
    simp (maxDischargeDepth:=9) only [BK,not_false_eq_true,reduceCtorEq] at n_k1
    have n_b:Below w.heap.size w V1:=by rw [hV_V1];(repeat' first|with_reducible assumption|with_reducible exact Below.refl _ _|with_reducible refine Below.alloc ?_ ?_ _|with_reducible refine Below.setCell ?_ ?_ _|with_reducible refine below_drewN ?_ _|with_reducible refine Below.drew ?_|exact Nat.le_refl _|((try dsimp only);omega)|(simp only [siz_alloc,siz_set];omega))
    have k0:=n_k0;clear n_k0
    have k1:=n_k1;clear n_k1
    clear hV_V1
    refine (right_yes l hl _).mono ?_
    rintro e_W1 W1 ⟨rfl,hb_W1⟩
    have b1:=below_step n_b hb_W1;clear n_b
    replace k0:=keep_blk hb_W1 k0
    obtain ⟨c_k0,f_k0,l_k0_W1⟩:=f3 k0
    replace k1:=keep_blk hb_W1 k1
    obtain ⟨c_k1,f_k1,l_k1_W1⟩:=f3 k1
    have z_W1:=b1.size
    clear hb_W1
    go_wp2
    refine bodyPost_ret (v:= .tuple #[.agg #[.int .u64 0, .int .i64 0], .bool false]) (by simp [results,Tryz.results188,go_sem, *]) rfl ⟨rfl,?_⟩
    (repeat' first|with_reducible assumption|with_reducible exact Below.refl _ _|with_reducible refine Below.alloc ?_ ?_ _|with_reducible refine Below.setCell ?_ ?_ _|with_reducible refine below_drewN ?_ _|with_reducible refine Below.drew ?_|exact Nat.le_refl _|((try dsimp only);omega)|(simp only [siz_alloc,siz_set];omega))
set_option maxHeartbeats 400000 in
theorem delete_no (b : Nat) (n : Int) (hb : b < 2 ^ 64) (h : ¬ Rt b n) (i : Int) (w : World) :
    Calls Tryz.prog 188 #[.agg #[.int .u64 (b:Int), .int .i64 n], .int .i64 i] w fun e w'=>
      e= .returned (.tuple #[.agg #[.int .u64 0, .int .i64 0], .bool false])∧Below w.heap.size w w':=by
  go_enter Tryz.func188,Tryz.ntmps188
  go_wp2_with fail
  refine calls_gen fun V1 hV_V1=> ?_
  have n_k0:=congrArg (fun v:World=>v.heap[w.heap.size]?) hV_V1
  have n_k1:=congrArg (fun v:World=>v.heap[w.heap.size+1]?) hV_V1
  simp (maxDischargeDepth:=9) only [BK,not_false_eq_true,reduceCtorEq] at n_k0
  simp (maxDischargeDepth:=9) only [BK,not_false_eq_true,reduceCtorEq] at n_k1
  have n_b:Below w.heap.size w V1:=by rw [hV_V1];(repeat' first|with_reducible assumption|with_reducible exact Below.refl _ _|with_reducible refine Below.alloc ?_ ?_ _|with_reducible refine Below.setCell ?_ ?_ _|with_reducible refine below_drewN ?_ _|with_reducible refine Below.drew ?_|exact Nat.le_refl _|((try dsimp only);omega)|(simp only [siz_alloc,siz_set];omega))
  have k0:=n_k0;clear n_k0
  have k1:=n_k1;clear n_k1
  clear hV_V1
  refine (right_no b n hb h _).mono ?_
  rintro e_W1 W1 ⟨rfl,hb_W1⟩
  have b1:=below_step n_b hb_W1;clear n_b
  replace k0:=keep_blk hb_W1 k0
  obtain ⟨c_k0,f_k0,l_k0_W1⟩:=f3 k0
  replace k1:=keep_blk hb_W1 k1
  obtain ⟨c_k1,f_k1,l_k1_W1⟩:=f3 k1
  have z_W1:=b1.size
  clear hb_W1
  go_wp2
  refine bodyPost_ret (v:= .tuple #[.agg #[.int .u64 0, .int .i64 0], .bool false]) (by simp [results,Tryz.results188,go_sem, *]) rfl ⟨rfl,?_⟩
  (repeat' first|with_reducible assumption|with_reducible exact Below.refl _ _|with_reducible refine Below.alloc ?_ ?_ _|with_reducible refine Below.setCell ?_ ?_ _|with_reducible refine below_drewN ?_ _|with_reducible refine Below.drew ?_|exact Nat.le_refl _|((try dsimp only);omega)|(simp only [siz_alloc,siz_set];omega))
theorem insert_at (l c : List Bool) (i : Int) (one : Bool) (hi : 0 ≤ i) (hi2 : i ≤ l.length) (hl : l.length < 64) (A n : Int) (hA : A = pack l) (hn : n = l.length) (hc : c = insL l i.toNat one) (w : World) :
    Calls Tryz.prog 141 #[.agg #[.int .u64 A, .int .i64 n], .int .i64 i, .bool one] w fun e w'=>
      e= .returned (.tuple #[.agg #[.int .u64 (pack c:Int), .int .i64 (c.length:Int)], .bool true])∧Below w.heap.size w w':=by
  obtain ⟨i,rfl⟩:=Int.eq_ofNat_of_zero_le hi
  subst hA hn hc;exact insert_yes l i one (by omega) hl w
theorem rank_at (l : List Bool) (hl : l.length ≤ 64) (i : Int) (A n r : Int) (hA : A = pack l) (hn : n = l.length) (hr : r = (l.take i.toNat).count true) (w : World) :
    Calls Tryz.prog 87 #[.agg #[.int .u64 A, .int .i64 n], .int .i64 i] w fun e w'=>e= .returned (.int .i64 r)∧Below w.heap.size w w':=by
  subst hA hn hr;exact rank_list l hl i w
theorem get_at (l : List Bool) (hl : l.length ≤ 64) (i : Int) (A n : Int) (r : Bool) (hA : A = pack l) (hn : n = l.length) (hr : r = getL l i) (w : World) :
    Calls Tryz.prog 84 #[.agg #[.int .u64 A, .int .i64 n], .int .i64 i] w fun e w'=>e= .returned (.bool r)∧Below w.heap.size w w':=by
  subst hA hn hr;exact get_list l hl i w
theorem delete_at (l c : List Bool) (i : Int) (hi : 0 ≤ i) (hi2 : i < l.length) (hl : l.length ≤ 64) (A n : Int) (hA : A = pack l) (hn : n = l.length) (hc : c = l.eraseIdx i.toNat) (w : World) :
    Calls Tryz.prog 188 #[.agg #[.int .u64 A, .int .i64 n], .int .i64 i] w fun e w'=>
      e= .returned (.tuple #[.agg #[.int .u64 (pack c:Int), .int .i64 (c.length:Int)], .bool true])∧Below w.heap.size w w':=by
  obtain ⟨i,rfl⟩:=Int.eq_ofNat_of_zero_le hi
  subst hA hn hc;exact delete_yes l i (by omega) hl w
end Go.Proofs.YtdjpjmkpndmhaaaGreat
namespace Go.Proofs.YtdjpjmkpndmhaaaGreat
open Go.RowKit
def Lf (b:Nat) (n:Int) (ok:Bool) (l:List Bool):Prop:=(ok=true∧l.length≤64∧b=pack l∧n=l.length)∨(ok=false∧l=[]∧b<2 ^ 64∧ ¬Rt b n)
theorem Lf.len {b:Nat} {n:Int} {ok:Bool} {l:List Bool} (h:Lf b n ok l):l.length≤64:=by
  rcases h with ⟨_,h,_⟩|⟨_,rfl,_⟩
  · exact h
  · simp
theorem Lf.of (b n:Int) (hb:(Lit.int .u64 b).wf=true): ∃(B:Nat) (ok:Bool) (l:List Bool),b=B∧Lf B n ok l:=by
  obtain ⟨h1,h2⟩:=wf_u64 hb
  obtain ⟨b,rfl⟩:=Int.eq_ofNat_of_zero_le h1
  by_cases h:Rt b n
  · obtain ⟨n,rfl⟩:=Int.eq_ofNat_of_zero_le h.1
    exact ⟨b,true,unpack b n,rfl, .inl ⟨rfl,by rw [unpack_length];have:=h.2.1;omega,by rw [pack_unpack];simpa using h.2.2,by rw [unpack_length]⟩⟩
  · exact ⟨b,false,[],rfl, .inr ⟨rfl,rfl,by omega,h⟩⟩
section
variable {b : Nat} {n : Int} {ok : Bool} {l : List Bool}
theorem right_lf (h:Lf b n ok l) (w:World):Calls Tryz.prog 130 #[.agg #[.int .u64 (b:Int), .int .i64 n]] w fun e w'=>e= .returned (.bool ok)∧Below w.heap.size w w':=by
  rcases h with ⟨rfl,h,rfl,rfl⟩|⟨rfl,rfl,hb,h⟩
  · exact right_yes l h w
  · exact right_no b n hb h w
theorem get_lf (h:Lf b n ok l) (i:Int) (r:Bool) (hr:r=getL l i) (w:World):Calls Tryz.prog 84 #[.agg #[.int .u64 (b:Int), .int .i64 n], .int .i64 i] w fun e w'=>e= .returned (.bool r)∧Below w.heap.size w w':=by
  subst hr
  rcases h with ⟨rfl,h,rfl,rfl⟩|⟨rfl,rfl,hb,h⟩
  · exact get_list l h i w
  · rw [getL_out [] i (by simp;omega)];exact get_no b n i hb h w
theorem rank_lf (h:Lf b n ok l) (i r:Int) (hr:r=(l.take i.toNat).count true) (w:World):Calls Tryz.prog 87 #[.agg #[.int .u64 (b:Int), .int .i64 n], .int .i64 i] w fun e w'=>e= .returned (.int .i64 r)∧Below w.heap.size w w':=by
  subst hr
  rcases h with ⟨rfl,h,rfl,rfl⟩|⟨rfl,rfl,hb,h⟩
  · exact rank_list l h i w
  · have e:((([]:List Bool).take i.toNat).count true:Int)=0:=by simp
    rw [e];exact rank_no b n i hb h w
theorem split_lf (h : Lf b n ok l) (i : Int) (x y : List Bool) (hx : x = l.take i.toNat) (hy : y = l.drop i.toNat) (w : World) : Calls Tryz.prog 143 #[.agg #[.int .u64 (b : Int), .int .i64 n], .int .i64 i] w fun e w' =>
    e= .returned (.tuple #[.agg #[.int .u64 (pack x:Int), .int .i64 (x.length:Int)], .agg #[.int .u64 (pack y:Int), .int .i64 (y.length:Int)]])∧Below w.heap.size w w':=by
  rcases h with ⟨rfl,h,rfl,rfl⟩|⟨rfl,rfl,hb,h⟩
  · exact split_at l h x y i hx hy _ _ rfl rfl w
  · obtain rfl:x=[]:=by simpa using hx
    obtain rfl:y=[]:=by simpa using hy
    exact split_no b n i hb h w
theorem insert_lf (h : Lf b n ok l) (i : Int) (one may : Bool) (c : List Bool) (hm : may = (ok && (decide (0 ≤ i) && (decide (i ≤ l.length) && decide ((l.length : Int) < 64))))) (hc : c = if may then insL l i.toNat one else []) (w : World) : Calls Tryz.prog 141 #[.agg #[.int .u64 (b : Int), .int .i64 n], .int .i64 i, .bool one] w fun e w' =>
    e= .returned (.tuple #[.agg #[.int .u64 (pack c:Int), .int .i64 (c.length:Int)], .bool may])∧Below w.heap.size w w':=by
  rcases h with ⟨rfl,h,rfl,rfl⟩|⟨rfl,rfl,hb,h⟩
  · by_cases g:0≤i∧i≤l.length∧(l.length:Int)<64
    · obtain rfl:may=true:=by simp [hm,g]
      simp at hc
      exact insert_at l c i one g.1 g.2.1 (by omega) _ _ rfl rfl hc w
    · obtain rfl:may=false:=by rw [hm];simp;omega
      obtain rfl:c=[]:=by simpa using hc
      exact insert_out l h i one (by omega) w
  · obtain rfl:may=false:=by simpa using hm
    obtain rfl:c=[]:=by simpa using hc
    exact insert_no b n hb h i one w
theorem delete_lf (h : Lf b n ok l) (i : Int) (may : Bool) (c : List Bool) (hm : may = (ok && (decide (0 ≤ i) && decide (i < l.length)))) (hc : c = if may then l.eraseIdx i.toNat else []) (w : World) : Calls Tryz.prog 188 #[.agg #[.int .u64 (b : Int), .int .i64 n], .int .i64 i] w fun e w' =>
    e= .returned (.tuple #[.agg #[.int .u64 (pack c:Int), .int .i64 (c.length:Int)], .bool may])∧Below w.heap.size w w':=by
  rcases h with ⟨rfl,h,rfl,rfl⟩|⟨rfl,rfl,hb,h⟩
  · by_cases g:0≤i∧i<l.length
    · obtain rfl:may=true:=by simp [hm,g]
      simp at hc
      exact delete_at l c i g.1 g.2 h _ _ rfl rfl hc w
    · obtain rfl:may=false:=by rw [hm];simp;omega
      obtain rfl:c=[]:=by simpa using hc
      exact delete_out l h i (by omega) w
  · obtain rfl:may=false:=by simpa using hm
    obtain rfl:c=[]:=by simpa using hc
    exact delete_no b n hb h i w
theorem join_lf {b' : Nat} {n' : Int} {ok' : Bool} {l' : List Bool} (h : Lf b n ok l) (h' : Lf b' n' ok' l') (may : Bool) (c : List Bool) (hm : may = (ok && (ok' && decide ((l.length : Int) + (l'.length : Int) ≤ 64)))) (hc : c = if may then l ++ l' else []) (w : World) :
    Calls Tryz.prog 168 #[.agg #[.int .u64 (b:Int), .int .i64 n], .agg #[.int .u64 (b':Int), .int .i64 n']] w fun e w'=>
    e= .returned (.tuple #[.agg #[.int .u64 (pack c:Int), .int .i64 (c.length:Int)], .bool may])∧Below w.heap.size w w':=by
  rcases h with ⟨rfl,h,rfl,rfl⟩|⟨rfl,rfl,hb,h⟩
  · rcases h' with ⟨rfl,h',rfl,rfl⟩|⟨rfl,rfl,hb',h'⟩
    · by_cases g:(l.length:Int)+(l'.length:Int)≤64
      · obtain rfl:may=true:=by simp [hm,g]
        simp at hc
        exact join_at l l' c (by omega) _ _ _ _ rfl rfl rfl rfl hc w
      · obtain rfl:may=false:=by rw [hm];simp;omega
        obtain rfl:c=[]:=by simpa using hc
        exact join_long l l' h h' (by omega) w
    · obtain rfl:may=false:=by simpa using hm
      obtain rfl:c=[]:=by simpa using hc
      exact join_no2 l h b' n' hb' h' w
  · obtain rfl:may=false:=by simpa using hm
    obtain rfl:c=[]:=by simpa using hc
    exact join_no1 b n hb h _ _ w
end
theorem lf_of (a n:Int) (h:U64 a): ∃B:Nat,a=B∧Lf B n (lfOk a n) (lfL a n):=by
  obtain ⟨b,rfl⟩:=Int.eq_ofNat_of_zero_le h.1
  refine ⟨b,rfl,?_⟩
  unfold lfOk lfL
  rw [Int.toNat_natCast]
  by_cases hr:Rt b n
  · rw [if_pos hr]
    obtain ⟨n,rfl⟩:=Int.eq_ofNat_of_zero_le hr.1
    exact .inl ⟨by simpa using hr,by rw [Int.toNat_natCast,unpack_length];have:=hr.2.1;omega,by rw [Int.toNat_natCast,pack_unpack];simpa using hr.2.2,by rw [Int.toNat_natCast,unpack_length]⟩
  · rw [if_neg hr]
    exact .inr ⟨by simpa using hr,rfl,by have:=h.2;omega,hr⟩
theorem lf_self {l:List Bool} (h:l.length≤64):Lf (pack l) l.length true l:= .inl ⟨rfl,h,rfl,rfl⟩
section
variable {a n : Int} (hU : U64 a)
include hU
theorem rank_i (i:Int) (w:World):Calls Tryz.prog 87 #[.agg #[.int .u64 a, .int .i64 n], .int .i64 i] w fun e w'=>e= .returned (.int .i64 (rankL (lfL a n) i))∧Below w.heap.size w w':=by
  obtain ⟨B,hB,hL⟩:=lf_of a n hU
  generalize lfOk a n=ok at hL;generalize lfL a n=l at hL⊢
  subst hB
  exact rank_lf hL i _ rfl w
theorem get_i (i:Int) (w:World):Calls Tryz.prog 84 #[.agg #[.int .u64 a, .int .i64 n], .int .i64 i] w fun e w'=>e= .returned (.bool (getL (lfL a n) i))∧Below w.heap.size w w':=by
  obtain ⟨B,hB,hL⟩:=lf_of a n hU
  generalize lfOk a n=ok at hL;generalize lfL a n=l at hL⊢
  subst hB
  exact get_lf hL i _ rfl w
theorem insert_i (i : Int) (one : Bool) (w : World) : Calls Tryz.prog 141 #[.agg #[.int .u64 a, .int .i64 n], .int .i64 i, .bool one] w fun e w' =>
    e= .returned (.tuple #[.agg #[.int .u64 (pack (insR (lfOk a n) (lfL a n) i one):Int), .int .i64 ((insR (lfOk a n) (lfL a n) i one).length:Int)], .bool (insOk (lfOk a n) (lfL a n) i)])∧Below w.heap.size w w':=by
  obtain ⟨B,hB,hL⟩:=lf_of a n hU
  generalize lfOk a n=ok at hL⊢;generalize lfL a n=l at hL⊢
  subst hB
  exact insert_lf hL i one _ _ rfl rfl w
theorem split_i (i : Int) (w : World) : Calls Tryz.prog 143 #[.agg #[.int .u64 a, .int .i64 n], .int .i64 i] w fun e w' =>
    e= .returned (.tuple #[.agg #[.int .u64 (pack ((lfL a n).take i.toNat):Int), .int .i64 (((lfL a n).take i.toNat).length:Int)], .agg #[.int .u64 (pack ((lfL a n).drop i.toNat):Int), .int .i64 (((lfL a n).drop i.toNat).length:Int)]])∧Below w.heap.size w w':=by
  obtain ⟨B,hB,hL⟩:=lf_of a n hU
  generalize lfOk a n=ok at hL;generalize lfL a n=l at hL⊢
  subst hB
  exact split_lf hL i _ _ rfl rfl w
theorem delete_i (i : Int) (w : World) : Calls Tryz.prog 188 #[.agg #[.int .u64 a, .int .i64 n], .int .i64 i] w fun e w' =>
    e= .returned (.tuple #[.agg #[.int .u64 (pack (delR (lfOk a n) (lfL a n) i):Int), .int .i64 ((delR (lfOk a n) (lfL a n) i).length:Int)], .bool (delOk (lfOk a n) (lfL a n) i)])∧Below w.heap.size w w':=by
  obtain ⟨B,hB,hL⟩:=lf_of a n hU
  generalize lfOk a n=ok at hL⊢;generalize lfL a n=l at hL⊢
  subst hB
  exact delete_lf hL i _ _ rfl rfl w
end
end Go.Proofs.YtdjpjmkpndmhaaaGreat
namespace Go.Proofs.YtdjpjmkpndmhaaaGreat
open Go.RowKit
attribute [local go_sem ↓] Go.wp_at_zero Go.wp_at_succ
attribute [local go_sem] lt_s2 lt_s3 lt_s4
variable {ap : Value} {s : Ar} {O : Nat → Prop}
set_option maxRecDepth 100000 in
set_option maxHeartbeats 800000 in
theorem bLen_calls (h : Int) (w : World) (hA : AP w ap s O) :
    Calls Tryz.prog 82 #[ap, .int .i64 h] w fun e w'=>e= .returned (.int .i64 (bLen s h))∧Below w.heap.size w w':=by
  unfold bLen
  cases h1:bIs s h with
  | false=>
    go_enter Tryz.func82,Tryz.ntmps82
    go_wp2_with fail
    refine calls_gen fun V hV_V=> ?_
    have hB:Below w.heap.size w V:=nB hV_V
    replace hA:AP V ap s O:=nA hV_V
    have z_V:=zS hV_V
    clear hV_V
    refine (bRow_calls _ _ hA).mono ?_
    rintro e_w1 w1 ⟨rfl,hb_w1⟩
    replace hA:=hA.below hb_w1
    replace hB:=below_step hB hb_w1
    have z_w1:=hb_w1.size
    clear hb_w1
    unfold Nd.val
    go_wp2_with fail
    go_ret
    exact ⟨rfl,by (repeat' first|with_reducible assumption|with_reducible exact Below.refl _ _|with_reducible refine Below.alloc ?_ ?_ _|with_reducible refine Below.setCell ?_ ?_ _|with_reducible refine below_drewN ?_ _|with_reducible refine Below.drew ?_|exact Nat.le_refl _|((try dsimp only);omega)|(simp only [siz_alloc,siz_set];omega))⟩
  | true=>
    rw [if_pos rfl]
    by_cases h2:(s.get h).tag=1
    · have d1:((s.get h).tag==1)=true:=by simpa using h2
      rw [if_pos h2]
      clear h2
      go_enter Tryz.func82,Tryz.ntmps82
      go_wp2_with fail
      refine calls_gen fun V hV_V=> ?_
      have hB:Below w.heap.size w V:=nB hV_V
      replace hA:AP V ap s O:=nA hV_V
      have z_V:=zS hV_V
      clear hV_V
      refine (bRow_calls _ _ hA).mono ?_
      rintro e_w1 w1 ⟨rfl,hb_w1⟩
      replace hA:=hA.below hb_w1
      replace hB:=below_step hB hb_w1
      have z_w1:=hb_w1.size
      clear hb_w1
      unfold Nd.val
      go_wp2_with fail
      go_ret
      exact ⟨rfl,by (repeat' first|with_reducible assumption|with_reducible exact Below.refl _ _|with_reducible refine Below.alloc ?_ ?_ _|with_reducible refine Below.setCell ?_ ?_ _|with_reducible refine below_drewN ?_ _|with_reducible refine Below.drew ?_|exact Nat.le_refl _|((try dsimp only);omega)|(simp only [siz_alloc,siz_set];omega))⟩
    · have d1:((s.get h).tag==1)=false:=by simpa using h2
      rw [if_neg h2]
      clear h2
      go_enter Tryz.func82,Tryz.ntmps82
      go_wp2_with fail
      refine calls_gen fun V hV_V=> ?_
      have hB:Below w.heap.size w V:=nB hV_V
      replace hA:AP V ap s O:=nA hV_V
      have z_V:=zS hV_V
      clear hV_V
      refine (bRow_calls _ _ hA).mono ?_
      rintro e_w1 w1 ⟨rfl,hb_w1⟩
      replace hA:=hA.below hb_w1
      replace hB:=below_step hB hb_w1
      have z_w1:=hb_w1.size
      clear hb_w1
      unfold Nd.val
      go_wp2_with fail
      go_ret
      exact ⟨rfl,by (repeat' first|with_reducible assumption|with_reducible exact Below.refl _ _|with_reducible refine Below.alloc ?_ ?_ _|with_reducible refine Below.setCell ?_ ?_ _|with_reducible refine below_drewN ?_ _|with_reducible refine Below.drew ?_|exact Nat.le_refl _|((try dsimp only);omega)|(simp only [siz_alloc,siz_set];omega))⟩
set_option maxHeartbeats 800000 in
theorem bBits_calls (n : Nd) (w : World) :
    Calls Tryz.prog 85 #[n.val] w fun e w'=>e= .returned (.agg #[.int .u64 n.a, .int .i64 (wrap64 n.b)])∧Below w.heap.size w w':=by
  unfold Nd.val
  go_enter Tryz.func85,Tryz.ntmps85
  go_wp2_with fail
  refine bodyPost_ret (v:= .agg #[.int .u64 n.a, .int .i64 (wrap64 n.b)]) (by simp [results,Tryz.results85,go_sem, *]) rfl ⟨rfl,?_⟩
  (repeat' first|with_reducible assumption|with_reducible exact Below.refl _ _|with_reducible refine Below.alloc ?_ ?_ _|with_reducible refine Below.setCell ?_ ?_ _|with_reducible refine below_drewN ?_ _|with_reducible refine Below.drew ?_|exact Nat.le_refl _|((try dsimp only);omega)|(simp only [siz_alloc,siz_set];omega))
set_option maxRecDepth 100000 in
set_option maxHeartbeats 800000 in
theorem bOnes_calls (h : Int) (w : World) (hA : AP w ap s O) :
    Calls Tryz.prog 88 #[ap, .int .i64 h] w fun e w'=>e= .returned (.int .i64 (bOnes s h))∧Below w.heap.size w w':=by
  unfold bOnes
  cases h1:bIs s h with
  | false=>
    go_enter Tryz.func88,Tryz.ntmps88
    go_wp2_with fail
    refine calls_gen fun V hV_V=> ?_
    have hB:Below w.heap.size w V:=nB hV_V
    replace hA:AP V ap s O:=nA hV_V
    have z_V:=zS hV_V
    clear hV_V
    refine (bRow_calls _ _ hA).mono ?_
    rintro e_w1 w1 ⟨rfl,hb_w1⟩
    replace hA:=hA.below hb_w1
    replace hB:=below_step hB hb_w1
    have z_w1:=hb_w1.size
    clear hb_w1
    unfold Nd.val
    go_wp2_with fail
    go_ret
    exact ⟨rfl,by (repeat' first|with_reducible assumption|with_reducible exact Below.refl _ _|with_reducible refine Below.alloc ?_ ?_ _|with_reducible refine Below.setCell ?_ ?_ _|with_reducible refine below_drewN ?_ _|with_reducible refine Below.drew ?_|exact Nat.le_refl _|((try dsimp only);omega)|(simp only [siz_alloc,siz_set];omega))⟩
  | true=>
    rw [if_pos rfl]
    by_cases h2:(s.get h).tag=1
    · have d1:((s.get h).tag==1)=true:=by simpa using h2
      have hU:=hA.1.get64 h
      rw [if_pos h2]
      clear h2
      go_enter Tryz.func88,Tryz.ntmps88
      go_wp2_with fail
      refine calls_gen fun V hV_V=> ?_
      have hB:Below w.heap.size w V:=nB hV_V
      replace hA:AP V ap s O:=nA hV_V
      have z_V:=zS hV_V
      clear hV_V
      refine (bRow_calls _ _ hA).mono ?_
      rintro e_w1 w1 ⟨rfl,hb_w1⟩
      replace hA:=hA.below hb_w1
      replace hB:=below_step hB hb_w1
      have z_w1:=hb_w1.size
      clear hb_w1
      unfold Nd.val
      go_wp2_with fail
      refine wp_gen fun V1 hV_V1=> ?_
      have n_k0:=hbk hV_V1 (w1.heap.size)
      simp (maxDischargeDepth:=9) only [BK,not_false_eq_true,reduceCtorEq] at n_k0
      have o_k0: ¬O (w1.heap.size):=by first|exact hA.new (Nat.le_refl _)|exact hA.new (by omega)
      replace hB:Below w.heap.size w V1:=nB hV_V1
      replace hA:AP V1 ap s O:=nA hV_V1
      have z_V1:=zS hV_V1
      clear hV_V1
      have k0:=n_k0;clear n_k0
      obtain ⟨c_k0,f_k0,l_k0_V1⟩:=f3 k0
      refine wp_region_noPanic ?_
      refine wp_region_held_drew (S:=fun v=>(∀o,v.cell? ⟨w1.heap.size,o,none⟩=V1.cell? ⟨w1.heap.size,o,none⟩)∧(V1.heap.size≤v.heap.size)∧AP v ap s O) (by kernel_rfl) ⟨(fun _=>rfl),(Nat.le_refl _),hA.drew⟩ (fun hHeld=> ?_)
      generalize hV_V1d:V1.drew=V1d at hHeld⊢
      have d_k0:=dK hV_V1d k0
      clear c_k0 f_k0
      replace hA:=hA.drew;rw [hV_V1d] at hA
      replace hB:=hB.drew;rw [hV_V1d] at hB
      have z_V1d:=dZ hV_V1d
      have v_k0:=cells_of k0
      clear k0;have k0:=d_k0;clear d_k0
      obtain ⟨c_k0,f_k0,l_k0_V1d⟩:=f3 k0
      clear hV_V1d
      refine tz 0 rfl hHeld ?_
      try simp only [PT]
      refine tz 2 rfl hHeld ?_
      try simp only [PT]
      refine tz 3 rfl hHeld ?_
      try simp only [PT]
      refine tz 4 rfl hHeld ?_
      try simp only [PT]
      refine rd 1 rfl fun K hK=> ?_
      go_simp
      try simp only [IntWalk.i64_left]
      refine (bBits_calls (s.get h) _).mono ?_
      rintro e_w2 w2 ⟨rfl,hb_w2⟩
      replace hA:=hA.below hb_w2
      replace hB:=below_step hB hb_w2
      replace k0:=keep_blk hb_w2 k0
      have z_w2:=hb_w2.size
      clear hb_w2 c_k0 f_k0
      obtain ⟨c_k0,f_k0,l_k0_w2⟩:=f3 k0
      refine hK.out _ _ ⟨(fun o=>(c_k0 o).trans (v_k0 o).symm),(by omega),hA⟩ (fun hHeld=> ?_)
      clear hK K
      try simp only [PT]
      refine rd 5 rfl fun K hK=> ?_
      go_simp
      try simp only [IntWalk.i64_left]
      refine (rank_i hU _ _).mono ?_
      rintro e_w3 w3 ⟨rfl,hb_w3⟩
      replace hA:=hA.below hb_w3
      replace hB:=below_step hB hb_w3
      replace k0:=keep_blk hb_w3 k0
      have z_w3:=hb_w3.size
      clear hb_w3 c_k0 f_k0
      obtain ⟨c_k0,f_k0,l_k0_w3⟩:=f3 k0
      refine hK.out _ _ ⟨(fun o=>(c_k0 o).trans (v_k0 o).symm),(by omega),hA⟩ (fun hHeld=> ?_)
      clear hK K
      try simp only [PT]
      refine rd 6 rfl fun K hK=> ?_
      go_simp
      refine hK.out _ _ hHeld (fun hHeld=> ?_)
      clear hK K
      try simp only [PT]
      refine wpAnyH_done (by kernel_rfl) ?_ _
      refine NoPanic.normal ?_
      go_wp2_with fail
      go_ret
      exact ⟨by simp only [IntWalk.i64_left];rfl,by (repeat' first|with_reducible assumption|with_reducible exact Below.refl _ _|with_reducible refine Below.alloc ?_ ?_ _|with_reducible refine Below.setCell ?_ ?_ _|with_reducible refine below_drewN ?_ _|with_reducible refine Below.drew ?_|exact Nat.le_refl _|((try dsimp only);omega)|(simp only [siz_alloc,siz_set];omega))⟩
    · have d1:((s.get h).tag==1)=false:=by simpa using h2
      rw [if_neg h2]
      clear h2
      go_enter Tryz.func88,Tryz.ntmps88
      go_wp2_with fail
      refine calls_gen fun V hV_V=> ?_
      have hB:Below w.heap.size w V:=nB hV_V
      replace hA:AP V ap s O:=nA hV_V
      have z_V:=zS hV_V
      clear hV_V
      refine (bRow_calls _ _ hA).mono ?_
      rintro e_w1 w1 ⟨rfl,hb_w1⟩
      replace hA:=hA.below hb_w1
      replace hB:=below_step hB hb_w1
      have z_w1:=hb_w1.size
      clear hb_w1
      unfold Nd.val
      go_wp2_with fail
      go_ret
      exact ⟨rfl,by (repeat' first|with_reducible assumption|with_reducible exact Below.refl _ _|with_reducible refine Below.alloc ?_ ?_ _|with_reducible refine Below.setCell ?_ ?_ _|with_reducible refine below_drewN ?_ _|with_reducible refine Below.drew ?_|exact Nat.le_refl _|((try dsimp only);omega)|(simp only [siz_alloc,siz_set];omega))⟩
set_option maxRecDepth 100000 in
set_option maxHeartbeats 2000000 in
theorem bGet_calls (h i : Int) (r : Bool × Bool) (hr : bGet s h i = some r) (w : World) (hA : AP w ap s O) :
    Calls Tryz.prog 30 #[ap, .int .i64 h, .int .i64 i] w fun e w'=>e= .returned (.tuple #[.bool r.1, .bool r.2])∧Below w.heap.size w w':=by
  unfold bGet at hr
  by_cases h1:i<0
  · rw [if_pos (.inl h1)] at hr
    have d1:decide (i<0)=true:=by simpa using h1
    cases hr
    clear h1
    go_enter Tryz.func30,Tryz.ntmps30
    go_wp2_with fail
    go_step3
    go_wp2_with fail
    simp only [Exit.noGoto_ret]
    go_ret2
    exact ⟨rfl,by (repeat' first|with_reducible assumption|with_reducible exact Below.refl _ _|with_reducible refine Below.alloc ?_ ?_ _|with_reducible refine Below.setCell ?_ ?_ _|with_reducible refine below_drewN ?_ _|with_reducible refine Below.drew ?_|exact Nat.le_refl _|((try dsimp only);omega)|(simp only [siz_alloc,siz_set];omega))⟩
  · have d1:decide (i<0)=false:=by simpa using h1
    by_cases h2:bLen s h≤i
    · rw [if_pos (.inr h2)] at hr
      have d2:decide (bLen s h≤i)=true:=by simpa using h2
      cases hr
      clear h1 h2
      go_enter Tryz.func30,Tryz.ntmps30
      go_wp2_with fail
      go_step3
      go_wp2_with fail
      refine calls_gen fun V hV_V=> ?_
      have hB:Below w.heap.size w V:=nB hV_V
      replace hA:AP V ap s O:=nA hV_V
      have z_V:=zS hV_V
      clear hV_V
      refine (bLen_calls _ _ hA).mono ?_
      rintro e_w1 w1 ⟨rfl,hb_w1⟩
      replace hA:=hA.below hb_w1
      replace hB:=below_step hB hb_w1
      have z_w1:=hb_w1.size
      clear hb_w1
      go_wp2_with fail
      simp only [Exit.noGoto_ret]
      go_ret2
      exact ⟨rfl,by (repeat' first|with_reducible assumption|with_reducible exact Below.refl _ _|with_reducible refine Below.alloc ?_ ?_ _|with_reducible refine Below.setCell ?_ ?_ _|with_reducible refine below_drewN ?_ _|with_reducible refine Below.drew ?_|exact Nat.le_refl _|((try dsimp only);omega)|(simp only [siz_alloc,siz_set];omega))⟩
    · rw [if_neg (by omega)] at hr
      have d2:decide (bLen s h≤i)=false:=by simpa using h2
      clear h1 h2
      obtain ⟨b,hb,rfl⟩: ∃b,bGetL rounds s h i=some b∧r=(b,true):=by
        cases e:bGetL rounds s h i with
        | none=>rw [e] at hr;cases hr
        | some b=>rw [e] at hr;cases hr;exact ⟨b,rfl,rfl⟩
      have hb':=Lib.hid hb;clear hb hr
      go_enter Tryz.func30,Tryz.ntmps30
      go_wp2_with fail
      refine wp_scope_ghost 0 (fun n a' wr=> ∃x y,(Below w.heap.size w wr∧Hid (bGetL n s x y=some b))∧ ∃u3 u4 u5 u6 u7 u8 u9 u10 u11 u12 u13 u14 u15 u16 u17 u18 u19 u20 u21 u22 u23 u24 u25 u26 u27 u28 u29 u30 u31 u32 u33 u34 u35 u36 u37 u38 u39 u40 u41 u42 u43 u44 u45 u46 u47:Value,a'={tmps:= #[(ap:Value),(.int .i64 x:Value),(.int .i64 y:Value),u3,u4,u5,u6,u7,u8,u9,u10,u11,u12,u13,u14,u15,u16,u17,u18,u19,u20,u21,u22,u23,u24,u25,u26,u27,u28,u29,u30,u31,u32,u33,u34,u35,u36,u37,u38,u39,u40,u41,u42,u43,u44,u45,u46,u47],defers:=[]}) (by rfl) ?first ?pass
      case first=>
        intro hrest
        go_wp2_with fail
        refine calls_gen fun V hV_V=> ?_
        have hB:Below w.heap.size w V:=nB hV_V
        replace hA:AP V ap s O:=nA hV_V
        have z_V:=zS hV_V
        clear hV_V
        refine (bLen_calls _ _ hA).mono ?_
        rintro e_w1 w1 ⟨rfl,hb_w1⟩
        replace hA:=hA.below hb_w1
        replace hB:=below_step hB hb_w1
        have z_w1:=hb_w1.size
        clear hb_w1
        go_wp2_with fail
        go_step3
        go_step
        go_step
        refine hrest rounds _ _ ⟨h,i,⟨hB,hb'⟩,?_⟩
        exact ⟨_,_,_,_,_,_,_,_,_,_,_,_,_,_,_,_,_,_,_,_,_,_,_,_,_,_,_,_,_,_,_,_,_,_,_,_,_,_,_,_,_,_,_,_,_,rfl⟩
      case pass=>
        rintro n a' wr ⟨x,y,⟨hB,hb'⟩,u3,u4,u5,u6,u7,u8,u9,u10,u11,u12,u13,u14,u15,u16,u17,u18,u19,u20,u21,u22,u23,u24,u25,u26,u27,u28,u29,u30,u31,u32,u33,u34,u35,u36,u37,u38,u39,u40,u41,u42,u43,u44,u45,u46,u47,rfl⟩ J hJ
        have hA:=hA.below hB
        have z_r:=hB.size
        have hb:=hb'.out
        clear hb'
        cases n with
        | zero=>exact absurd hb (by simp [bGetL])
        | succ n=>
          unfold bGetL at hb
          by_cases h2:(s.get x).tag=1
          · rw [if_pos h2] at hb
            have d1:((s.get x).tag==1)=true:=by simpa using h2
            have hU:=hA.1.get64 x
            obtain rfl:=Option.some.inj hb
            clear hb h2
            go_wp2_with fail
            refine calls_gen fun V1 hV_V1=> ?_
            replace hB:Below w.heap.size w V1:=nB hV_V1
            replace hA:AP V1 ap s O:=nA hV_V1
            have z_V1:=zS hV_V1
            clear hV_V1
            refine (bRow_calls _ _ hA).mono ?_
            rintro e_w2 w2 ⟨rfl,hb_w2⟩
            replace hA:=hA.below hb_w2
            replace hB:=below_step hB hb_w2
            have z_w2:=hb_w2.size
            clear hb_w2
            unfold Nd.val
            go_wp2_with fail
            refine calls_gen fun V2 hV_V2=> ?_
            have n_k0:=hbk hV_V2 (w2.heap.size)
            simp (maxDischargeDepth:=9) only [BK,not_false_eq_true,reduceCtorEq] at n_k0
            have o_k0: ¬O (w2.heap.size):=by first|exact hA.new (Nat.le_refl _)|exact hA.new (by omega)
            replace hB:Below w.heap.size w V2:=nB hV_V2
            replace hA:AP V2 ap s O:=nA hV_V2
            have z_V2:=zS hV_V2
            clear hV_V2
            have k0:=n_k0;clear n_k0
            obtain ⟨c_k0,f_k0,l_k0_V2⟩:=f3 k0
            refine (bBits_calls (s.get x) _).mono ?_
            rintro e_w3 w3 ⟨rfl,hb_w3⟩
            replace hA:=hA.below hb_w3
            replace hB:=below_step hB hb_w3
            replace k0:=keep_blk hb_w3 k0
            have z_w3:=hb_w3.size
            clear hb_w3 c_k0 f_k0
            obtain ⟨c_k0,f_k0,l_k0_w3⟩:=f3 k0
            go_wp2_with fail
            refine (get_i hU _ _).mono ?_
            rintro e_w4 w4 ⟨rfl,hb_w4⟩
            replace hA:=hA.below hb_w4
            replace hB:=below_step hB hb_w4
            replace k0:=keep_blk hb_w4 k0
            have z_w4:=hb_w4.size
            clear hb_w4 c_k0 f_k0
            obtain ⟨c_k0,f_k0,l_k0_w4⟩:=f3 k0
            go_wp2_with fail
            simp only [Exit.jump]
            go_ret2
            exact ⟨rfl,by (repeat' first|with_reducible assumption|with_reducible exact Below.refl _ _|with_reducible refine Below.alloc ?_ ?_ _|with_reducible refine Below.setCell ?_ ?_ _|with_reducible refine below_drewN ?_ _|with_reducible refine Below.drew ?_|exact Nat.le_refl _|((try dsimp only);omega)|(simp only [siz_alloc,siz_set];omega))⟩
          · rw [if_neg h2] at hb
            have d1:((s.get x).tag==1)=false:=by simpa using h2
            clear h2
            by_cases h3:bLen s (s.get x).k0≤y
            · rw [if_pos h3] at hb
              have d3:decide (bLen s (s.get x).k0≤y)=true:=by simpa using h3
              have hb':=Lib.hid hb;clear hb h3
              go_wp2_with fail
              refine calls_gen fun V1 hV_V1=> ?_
              replace hB:Below w.heap.size w V1:=nB hV_V1
              replace hA:AP V1 ap s O:=nA hV_V1
              have z_V1:=zS hV_V1
              clear hV_V1
              refine (bRow_calls _ _ hA).mono ?_
              rintro e_w2 w2 ⟨rfl,hb_w2⟩
              replace hA:=hA.below hb_w2
              replace hB:=below_step hB hb_w2
              have z_w2:=hb_w2.size
              clear hb_w2
              unfold Nd.val
              go_wp2_with fail
              refine calls_gen fun V2 hV_V2=> ?_
              have n_k0:=hbk hV_V2 (w2.heap.size)
              simp (maxDischargeDepth:=9) only [BK,not_false_eq_true,reduceCtorEq] at n_k0
              have o_k0: ¬O (w2.heap.size):=by first|exact hA.new (Nat.le_refl _)|exact hA.new (by omega)
              replace hB:Below w.heap.size w V2:=nB hV_V2
              replace hA:AP V2 ap s O:=nA hV_V2
              have z_V2:=zS hV_V2
              clear hV_V2
              have k0:=n_k0;clear n_k0
              obtain ⟨c_k0,f_k0,l_k0_V2⟩:=f3 k0
              refine (bLen_calls _ _ hA).mono ?_
              rintro e_w3 w3 ⟨rfl,hb_w3⟩
              replace hA:=hA.below hb_w3
              replace hB:=below_step hB hb_w3
              replace k0:=keep_blk hb_w3 k0
              have z_w3:=hb_w3.size
              clear hb_w3 c_k0 f_k0
              obtain ⟨c_k0,f_k0,l_k0_w3⟩:=f3 k0
              go_wp2_with fail
              go_step3
              refine ⟨rfl,hJ _ _ ⟨n,by omega,_,_,⟨by (repeat' first|with_reducible assumption|with_reducible exact Below.refl _ _|with_reducible refine Below.alloc ?_ ?_ _|with_reducible refine Below.setCell ?_ ?_ _|with_reducible refine below_drewN ?_ _|with_reducible refine Below.drew ?_|exact Nat.le_refl _|((try dsimp only);omega)|(simp only [siz_alloc,siz_set];omega)),hb'⟩,?_⟩⟩
              exact ⟨_,_,_,_,_,_,_,_,_,_,_,_,_,_,_,_,_,_,_,_,_,_,_,_,_,_,_,_,_,_,_,_,_,_,_,_,_,_,_,_,_,_,_,_,_,rfl⟩
            · rw [if_neg h3] at hb
              have d3:decide (bLen s (s.get x).k0≤y)=false:=by simpa using h3
              have hb':=Lib.hid hb;clear hb h3
              go_wp2_with fail
              refine calls_gen fun V1 hV_V1=> ?_
              replace hB:Below w.heap.size w V1:=nB hV_V1
              replace hA:AP V1 ap s O:=nA hV_V1
              have z_V1:=zS hV_V1
              clear hV_V1
              refine (bRow_calls _ _ hA).mono ?_
              rintro e_w2 w2 ⟨rfl,hb_w2⟩
              replace hA:=hA.below hb_w2
              replace hB:=below_step hB hb_w2
              have z_w2:=hb_w2.size
              clear hb_w2
              unfold Nd.val
              go_wp2_with fail
              refine calls_gen fun V2 hV_V2=> ?_
              have n_k0:=hbk hV_V2 (w2.heap.size)
              simp (maxDischargeDepth:=9) only [BK,not_false_eq_true,reduceCtorEq] at n_k0
              have o_k0: ¬O (w2.heap.size):=by first|exact hA.new (Nat.le_refl _)|exact hA.new (by omega)
              replace hB:Below w.heap.size w V2:=nB hV_V2
              replace hA:AP V2 ap s O:=nA hV_V2
              have z_V2:=zS hV_V2
              clear hV_V2
              have k0:=n_k0;clear n_k0
              obtain ⟨c_k0,f_k0,l_k0_V2⟩:=f3 k0
              refine (bLen_calls _ _ hA).mono ?_
              rintro e_w3 w3 ⟨rfl,hb_w3⟩
              replace hA:=hA.below hb_w3
              replace hB:=below_step hB hb_w3
              replace k0:=keep_blk hb_w3 k0
              have z_w3:=hb_w3.size
              clear hb_w3 c_k0 f_k0
              obtain ⟨c_k0,f_k0,l_k0_w3⟩:=f3 k0
              go_wp2_with fail
              go_step3
              refine ⟨rfl,hJ _ _ ⟨n,by omega,_,_,⟨by (repeat' first|with_reducible assumption|with_reducible exact Below.refl _ _|with_reducible refine Below.alloc ?_ ?_ _|with_reducible refine Below.setCell ?_ ?_ _|with_reducible refine below_drewN ?_ _|with_reducible refine Below.drew ?_|exact Nat.le_refl _|((try dsimp only);omega)|(simp only [siz_alloc,siz_set];omega)),hb'⟩,?_⟩⟩
              exact ⟨_,_,_,_,_,_,_,_,_,_,_,_,_,_,_,_,_,_,_,_,_,_,_,_,_,_,_,_,_,_,_,_,_,_,_,_,_,_,_,_,_,_,_,_,_,rfl⟩
end Go.Proofs.YtdjpjmkpndmhaaaGreat
namespace Go.Proofs.YtdjpjmkpndmhaaaGreat
open Go.RowKit
attribute [local go_sem ↓] Go.wp_at_zero Go.wp_at_succ
attribute [local go_sem] lt_s2 lt_s3 lt_s4
variable {ap : Value} {s : Ar} {O : Nat → Prop}
theorem minmax (i n:Int) {P:Prop} (h1:i<0→n<0→imin (imax i 0) n=n→P) (h2:i<0→ ¬n<0→imin (imax i 0) n=0→P) (h3: ¬i<0→n<i→imin (imax i 0) n=n→P) (h4: ¬i<0→ ¬n<i→imin (imax i 0) n=i→P):P:=by
  by_cases c1:i<0
  · by_cases c2:n<0
    · exact h1 c1 c2 (by unfold imin imax;split<;>split<;>omega)
    · exact h2 c1 c2 (by unfold imin imax;split<;>split<;>omega)
  · by_cases c2:n<i
    · exact h3 c1 c2 (by unfold imin imax;split<;>split<;>omega)
    · exact h4 c1 c2 (by unfold imin imax;split<;>split<;>omega)
set_option maxRecDepth 100000 in
set_option maxHeartbeats 4000000 in
theorem bRank_calls (h i r : Int) (hr : bRank s h i = some r) (w : World) (hA : AP w ap s O) :
    Calls Tryz.prog 32 #[ap, .int .i64 h, .int .i64 i] w fun e w'=>e= .returned (.int .i64 r)∧Below w.heap.size w w':=by
  unfold bRank at hr
  have hr':=Lib.hid hr;clear hr
  go_enter Tryz.func32,Tryz.ntmps32
  go_wp2_with fail
  refine wp_scope_ghost 0 (fun n a' wr=> ∃x y z,(Below w.heap.size w wr∧Hid (bRankL n s x y z=some r))∧ ∃u3 u4 u5 u6 u8 u9 u10 u11 u12 u13 u14 u15 u16 u17 u18 u19 u20 u21 u22 u23 u24 u25 u26 u27 u28 u29 u30 u31 u32 u33 u34 u35 u36 u37 u38 u39 u40 u41 u42 u43 u44 u45 u46 u47 u48 u49 u50 u51 u52 u53:Value,a'={tmps:= #[(ap:Value),(.int .i64 x:Value),(.int .i64 y:Value),u3,u4,u5,u6,(.int .i64 z:Value),u8,u9,u10,u11,u12,u13,u14,u15,u16,u17,u18,u19,u20,u21,u22,u23,u24,u25,u26,u27,u28,u29,u30,u31,u32,u33,u34,u35,u36,u37,u38,u39,u40,u41,u42,u43,u44,u45,u46,u47,u48,u49,u50,u51,u52,u53],defers:=[]}) (by rfl) ?first ?pass
  case first=>
    intro hrest
    have hr:=hr'.out
    clear hr'
    refine minmax i (bLen s h) ?_ ?_ ?_ ?_<;>intro c1 c2 hm<;>rw [hm] at hr<;>clear hm
    all_goals
      split at hr
      · rename_i hz
        have d3:=beq_iff_eq.2 hz
        cases hr
        clear hz
        go_wp2_with fail
        refine calls_gen fun V hV_V=> ?_
        have hB:Below w.heap.size w V:=nB hV_V
        replace hA:AP V ap s O:=nA hV_V
        have z_V:=zS hV_V
        clear hV_V
        refine (bLen_calls _ _ hA).mono ?_
        rintro e_w1 w1 ⟨rfl,hb_w1⟩
        replace hA:=hA.below hb_w1
        replace hB:=below_step hB hb_w1
        have z_w1:=hb_w1.size
        clear hb_w1
        go_wp2_with fail
        simp only [Exit.jump]
        go_ret
        exact ⟨rfl,by (repeat' first|with_reducible assumption|with_reducible exact Below.refl _ _|with_reducible refine Below.alloc ?_ ?_ _|with_reducible refine Below.setCell ?_ ?_ _|with_reducible refine below_drewN ?_ _|with_reducible refine Below.drew ?_|exact Nat.le_refl _|((try dsimp only);omega)|(simp only [siz_alloc,siz_set];omega))⟩
      · rename_i hz
        first
        | exact absurd rfl hz
        | have d3:=beq_eq_false_iff_ne.2 hz
          have hb':=Lib.hid hr;clear hr hz
          go_wp2_with fail
          refine calls_gen fun V hV_V=> ?_
          have hB:Below w.heap.size w V:=nB hV_V
          replace hA:AP V ap s O:=nA hV_V
          have z_V:=zS hV_V
          clear hV_V
          refine (bLen_calls _ _ hA).mono ?_
          rintro e_w1 w1 ⟨rfl,hb_w1⟩
          replace hA:=hA.below hb_w1
          replace hB:=below_step hB hb_w1
          have z_w1:=hb_w1.size
          clear hb_w1
          go_wp2_with fail
          go_step3
          go_step
          go_step
          refine hrest rounds _ _ ⟨h,_,0,⟨hB,hb'⟩,?_⟩
          exact ⟨_,_,_,_,_,_,_,_,_,_,_,_,_,_,_,_,_,_,_,_,_,_,_,_,_,_,_,_,_,_,_,_,_,_,_,_,_,_,_,_,_,_,_,_,_,_,_,_,_,_,rfl⟩
  case pass=>
    rintro n a' wr ⟨x,y,z,⟨hB,hb'⟩,u3,u4,u5,u6,u8,u9,u10,u11,u12,u13,u14,u15,u16,u17,u18,u19,u20,u21,u22,u23,u24,u25,u26,u27,u28,u29,u30,u31,u32,u33,u34,u35,u36,u37,u38,u39,u40,u41,u42,u43,u44,u45,u46,u47,u48,u49,u50,u51,u52,u53,rfl⟩ J hJ
    have hA:=hA.below hB
    have z_r:=hB.size
    have hb:=hb'.out
    clear hb' hr'
    cases n with
    | zero=>exact absurd hb (by simp [bRankL])
    | succ n=>
      unfold bRankL at hb
      by_cases h2:(s.get x).tag=1
      · rw [if_pos h2] at hb
        have d1:((s.get x).tag==1)=true:=by simpa using h2
        have hU:=hA.1.get64 x
        obtain rfl:=Option.some.inj hb
        clear hb h2
        go_wp2_with fail
        refine calls_gen fun V1 hV_V1=> ?_
        replace hB:Below w.heap.size w V1:=nB hV_V1
        replace hA:AP V1 ap s O:=nA hV_V1
        have z_V1:=zS hV_V1
        clear hV_V1
        refine (bRow_calls _ _ hA).mono ?_
        rintro e_w2 w2 ⟨rfl,hb_w2⟩
        replace hA:=hA.below hb_w2
        replace hB:=below_step hB hb_w2
        have z_w2:=hb_w2.size
        clear hb_w2
        unfold Nd.val
        go_wp2_with fail
        refine calls_gen fun V2 hV_V2=> ?_
        have n_k0:=hbk hV_V2 (w2.heap.size)
        simp (maxDischargeDepth:=9) only [BK,not_false_eq_true,reduceCtorEq] at n_k0
        have o_k0: ¬O (w2.heap.size):=by first|exact hA.new (Nat.le_refl _)|exact hA.new (by omega)
        replace hB:Below w.heap.size w V2:=nB hV_V2
        replace hA:AP V2 ap s O:=nA hV_V2
        have z_V2:=zS hV_V2
        clear hV_V2
        have k0:=n_k0;clear n_k0
        obtain ⟨c_k0,f_k0,l_k0_V2⟩:=f3 k0
        refine (bBits_calls (s.get x) _).mono ?_
        rintro e_w3 w3 ⟨rfl,hb_w3⟩
        replace hA:=hA.below hb_w3
        replace hB:=below_step hB hb_w3
        replace k0:=keep_blk hb_w3 k0
        have z_w3:=hb_w3.size
        clear hb_w3 c_k0 f_k0
        obtain ⟨c_k0,f_k0,l_k0_w3⟩:=f3 k0
        go_wp2_with fail
        refine (rank_i hU _ _).mono ?_
        rintro e_w4 w4 ⟨rfl,hb_w4⟩
        replace hA:=hA.below hb_w4
        replace hB:=below_step hB hb_w4
        replace k0:=keep_blk hb_w4 k0
        have z_w4:=hb_w4.size
        clear hb_w4 c_k0 f_k0
        obtain ⟨c_k0,f_k0,l_k0_w4⟩:=f3 k0
        go_wp2_with fail
        simp only [Exit.jump]
        go_ret
        exact ⟨rfl,by (repeat' first|with_reducible assumption|with_reducible exact Below.refl _ _|with_reducible refine Below.alloc ?_ ?_ _|with_reducible refine Below.setCell ?_ ?_ _|with_reducible refine below_drewN ?_ _|with_reducible refine Below.drew ?_|exact Nat.le_refl _|((try dsimp only);omega)|(simp only [siz_alloc,siz_set];omega))⟩
      · rw [if_neg h2] at hb
        have d1:((s.get x).tag==1)=false:=by simpa using h2
        clear h2
        by_cases h3:bLen s (s.get x).k0<y
        · rw [if_pos h3] at hb
          have d3:decide (bLen s (s.get x).k0<y)=true:=by simpa using h3
          have hb':=Lib.hid hb;clear hb h3
          go_wp2_with fail
          refine calls_gen fun V1 hV_V1=> ?_
          replace hB:Below w.heap.size w V1:=nB hV_V1
          replace hA:AP V1 ap s O:=nA hV_V1
          have z_V1:=zS hV_V1
          clear hV_V1
          refine (bRow_calls _ _ hA).mono ?_
          rintro e_w2 w2 ⟨rfl,hb_w2⟩
          replace hA:=hA.below hb_w2
          replace hB:=below_step hB hb_w2
          have z_w2:=hb_w2.size
          clear hb_w2
          unfold Nd.val
          go_wp2_with fail
          refine calls_gen fun V2 hV_V2=> ?_
          have n_k0:=hbk hV_V2 (w2.heap.size)
          simp (maxDischargeDepth:=9) only [BK,not_false_eq_true,reduceCtorEq] at n_k0
          have o_k0: ¬O (w2.heap.size):=by first|exact hA.new (Nat.le_refl _)|exact hA.new (by omega)
          replace hB:Below w.heap.size w V2:=nB hV_V2
          replace hA:AP V2 ap s O:=nA hV_V2
          have z_V2:=zS hV_V2
          clear hV_V2
          have k0:=n_k0;clear n_k0
          obtain ⟨c_k0,f_k0,l_k0_V2⟩:=f3 k0
          refine (bLen_calls _ _ hA).mono ?_
          rintro e_w3 w3 ⟨rfl,hb_w3⟩
          replace hA:=hA.below hb_w3
          replace hB:=below_step hB hb_w3
          replace k0:=keep_blk hb_w3 k0
          have z_w3:=hb_w3.size
          clear hb_w3 c_k0 f_k0
          obtain ⟨c_k0,f_k0,l_k0_w3⟩:=f3 k0
          go_wp2_with fail
          refine (bOnes_calls _ _ hA).mono ?_
          rintro e_w4 w4 ⟨rfl,hb_w4⟩
          replace hA:=hA.below hb_w4
          replace hB:=below_step hB hb_w4
          replace k0:=keep_blk hb_w4 k0
          have z_w4:=hb_w4.size
          clear hb_w4 c_k0 f_k0
          obtain ⟨c_k0,f_k0,l_k0_w4⟩:=f3 k0
          go_wp2_with fail
          go_step3
          refine ⟨rfl,hJ _ _ ⟨n,by omega,_,_,_,⟨by (repeat' first|with_reducible assumption|with_reducible exact Below.refl _ _|with_reducible refine Below.alloc ?_ ?_ _|with_reducible refine Below.setCell ?_ ?_ _|with_reducible refine below_drewN ?_ _|with_reducible refine Below.drew ?_|exact Nat.le_refl _|((try dsimp only);omega)|(simp only [siz_alloc,siz_set];omega)),hb'⟩,?_⟩⟩
          exact ⟨_,_,_,_,_,_,_,_,_,_,_,_,_,_,_,_,_,_,_,_,_,_,_,_,_,_,_,_,_,_,_,_,_,_,_,_,_,_,_,_,_,_,_,_,_,_,_,_,_,_,rfl⟩
        · rw [if_neg h3] at hb
          have d3:decide (bLen s (s.get x).k0<y)=false:=by simpa using h3
          have hb':=Lib.hid hb;clear hb h3
          go_wp2_with fail
          refine calls_gen fun V1 hV_V1=> ?_
          replace hB:Below w.heap.size w V1:=nB hV_V1
          replace hA:AP V1 ap s O:=nA hV_V1
          have z_V1:=zS hV_V1
          clear hV_V1
          refine (bRow_calls _ _ hA).mono ?_
          rintro e_w2 w2 ⟨rfl,hb_w2⟩
          replace hA:=hA.below hb_w2
          replace hB:=below_step hB hb_w2
          have z_w2:=hb_w2.size
          clear hb_w2
          unfold Nd.val
          go_wp2_with fail
          refine calls_gen fun V2 hV_V2=> ?_
          have n_k0:=hbk hV_V2 (w2.heap.size)
          simp (maxDischargeDepth:=9) only [BK,not_false_eq_true,reduceCtorEq] at n_k0
          have o_k0: ¬O (w2.heap.size):=by first|exact hA.new (Nat.le_refl _)|exact hA.new (by omega)
          replace hB:Below w.heap.size w V2:=nB hV_V2
          replace hA:AP V2 ap s O:=nA hV_V2
          have z_V2:=zS hV_V2
          clear hV_V2
          have k0:=n_k0;clear n_k0
          obtain ⟨c_k0,f_k0,l_k0_V2⟩:=f3 k0
          refine (bLen_calls _ _ hA).mono ?_
          rintro e_w3 w3 ⟨rfl,hb_w3⟩
          replace hA:=hA.below hb_w3
          replace hB:=below_step hB hb_w3
          replace k0:=keep_blk hb_w3 k0
          have z_w3:=hb_w3.size
          clear hb_w3 c_k0 f_k0
          obtain ⟨c_k0,f_k0,l_k0_w3⟩:=f3 k0
          go_wp2_with fail
          go_step3
          refine ⟨rfl,hJ _ _ ⟨n,by omega,_,_,_,⟨by (repeat' first|with_reducible assumption|with_reducible exact Below.refl _ _|with_reducible refine Below.alloc ?_ ?_ _|with_reducible refine Below.setCell ?_ ?_ _|with_reducible refine below_drewN ?_ _|with_reducible refine Below.drew ?_|exact Nat.le_refl _|((try dsimp only);omega)|(simp only [siz_alloc,siz_set];omega)),hb'⟩,?_⟩⟩
          exact ⟨_,_,_,_,_,_,_,_,_,_,_,_,_,_,_,_,_,_,_,_,_,_,_,_,_,_,_,_,_,_,_,_,_,_,_,_,_,_,_,_,_,_,_,_,_,_,_,_,_,_,rfl⟩
end Go.Proofs.YtdjpjmkpndmhaaaGreat
namespace Go.Proofs.YtdjpjmkpndmhaaaGreat
open Go.RowKit
attribute [local go_sem ↓] Go.wp_at_zero Go.wp_at_succ
attribute [local go_sem] lt_s2 lt_s3 lt_s4
variable {ap : Value} {s : Ar} {O : Nat → Prop}
set_option maxHeartbeats 400000 in
theorem wIs_calls (x:Int) (w:World):Calls Tryz.prog 107 #[.int .i64 x] w fun e w'=>e= .returned (.bool (wIs x))∧w=w':=by
  unfold wIs
  by_cases h1:0≤x
  · have d1:decide (0≤x)=true:=by simpa using h1
    go_enter Tryz.func107,Tryz.ntmps107
    go_wp2_with fail
    go_ret
    exact ⟨by first|rfl|(rw [d1];rfl),rfl⟩
  · have d1:decide (0≤x)=false:=by simpa using h1
    go_enter Tryz.func107,Tryz.ntmps107
    go_wp2_with fail
    go_ret
    exact ⟨by first|rfl|(rw [d1];rfl),rfl⟩
set_option maxHeartbeats 400000 in
theorem wKid_calls (n:Nd) (one:Bool) (w:World):Calls Tryz.prog 128 #[n.val, .bool one] w fun e w'=>e= .returned (.int .i64 (n.kid one))∧Below w.heap.size w w':=by
  unfold Nd.val
  cases one with
  | true=>
    go_enter Tryz.func128,Tryz.ntmps128
    go_wp2_with fail
    go_ret
    exact ⟨rfl,by (repeat' first|with_reducible assumption|with_reducible exact Below.refl _ _|with_reducible refine Below.alloc ?_ ?_ _|with_reducible refine Below.setCell ?_ ?_ _|with_reducible refine below_drewN ?_ _|with_reducible refine Below.drew ?_|exact Nat.le_refl _|((try dsimp only);omega)|(simp only [siz_alloc,siz_set];omega))⟩
  | false=>
    go_enter Tryz.func128,Tryz.ntmps128
    go_wp2_with fail
    go_ret
    exact ⟨rfl,by (repeat' first|with_reducible assumption|with_reducible exact Below.refl _ _|with_reducible refine Below.alloc ?_ ?_ _|with_reducible refine Below.setCell ?_ ?_ _|with_reducible refine below_drewN ?_ _|with_reducible refine Below.drew ?_|exact Nat.le_refl _|((try dsimp only);omega)|(simp only [siz_alloc,siz_set];omega))⟩
set_option maxRecDepth 100000 in
set_option maxHeartbeats 800000 in
theorem wLen_calls (h : Int) (w : World) (hA : AP w ap s O) :
    Calls Tryz.prog 78 #[ap, .int .i64 h] w fun e w'=>e= .returned (.int .i64 (wLen s h))∧Below w.heap.size w w':=by
  go_enter Tryz.func78,Tryz.ntmps78
  go_wp2_with fail
  refine calls_gen fun V hV_V=> ?_
  have hB:Below w.heap.size w V:=nB hV_V
  replace hA:AP V ap s O:=nA hV_V
  have z_V:=zS hV_V
  clear hV_V
  refine (wRow_calls _ _ hA).mono ?_
  rintro e_W1 W1 ⟨rfl,hb_W1⟩
  replace hA:=hA.below hb_W1
  replace hB:=below_step hB hb_W1
  have z_W1:=hb_W1.size
  clear hb_W1
  unfold Nd.val
  go_wp2_with fail
  refine calls_gen fun V1 hV_V1=> ?_
  have n_kn:=hbk hV_V1 (W1.heap.size)
  simp (maxDischargeDepth:=9) only [BK,not_false_eq_true,reduceCtorEq] at n_kn
  have o_kn: ¬O (W1.heap.size):=by first|exact hA.new (Nat.le_refl _)|exact hA.new (by omega)
  replace hB:Below w.heap.size w V1:=nB hV_V1
  replace hA:AP V1 ap s O:=nA hV_V1
  have z_V1:=zS hV_V1
  clear hV_V1
  have kn:=n_kn;clear n_kn
  obtain ⟨c_kn,f_kn,l_kn_V1⟩:=f3 kn
  refine (bLen_calls _ _ hA).mono ?_
  rintro e_W2 W2 ⟨rfl,hb_W2⟩
  replace hA:=hA.below hb_W2
  replace hB:=below_step hB hb_W2
  replace kn:=keep_blk hb_W2 kn
  have z_W2:=hb_W2.size
  clear hb_W2 c_kn f_kn
  obtain ⟨c_kn,f_kn,l_kn_W2⟩:=f3 kn
  go_wp2_with fail
  go_ret
  exact ⟨rfl,by (repeat' first|with_reducible assumption|with_reducible exact Below.refl _ _|with_reducible refine Below.alloc ?_ ?_ _|with_reducible refine Below.setCell ?_ ?_ _|with_reducible refine below_drewN ?_ _|with_reducible refine Below.drew ?_|exact Nat.le_refl _|((try dsimp only);omega)|(simp only [siz_alloc,siz_set];omega))⟩
set_option maxRecDepth 100000 in
set_option maxHeartbeats 2000000 in
theorem wAlike_calls (h i : Int) (one : Bool) (r : Int) (hr : wAlike s h i one = some r) (w : World) (hA : AP w ap s O) :
    Calls Tryz.prog 127 #[ap, .int .i64 h, .int .i64 i, .bool one] w fun e w'=>e= .returned (.int .i64 r)∧Below w.heap.size w w':=by
  unfold wAlike at hr
  obtain ⟨u,hu,hr⟩:=Option.map_eq_some_iff.1 hr
  cases one with
  | true=>
    rw [if_pos rfl] at hr
    subst hr
    refine minmax i (bLen s h) ?_ ?_ ?_ ?_<;>intro c1 c2 hm<;>rw [hm] at hu<;>clear hm
    all_goals
      have Hu:=Lib.hid hu;clear hu
      go_enter Tryz.func127,Tryz.ntmps127
      go_wp2_with fail
      refine calls_gen fun V hV_V=> ?_
      have hB:Below w.heap.size w V:=nB hV_V
      replace hA:AP V ap s O:=nA hV_V
      have z_V:=zS hV_V
      clear hV_V
      refine (bLen_calls _ _ hA).mono ?_
      rintro e_W1 W1 ⟨rfl,hb_W1⟩
      replace hA:=hA.below hb_W1
      replace hB:=below_step hB hb_W1
      have z_W1:=hb_W1.size
      clear hb_W1
      go_wp2_with fail
      refine calls_gen fun V1 hV_V1=> ?_
      replace hB:Below w.heap.size w V1:=nB hV_V1
      replace hA:AP V1 ap s O:=nA hV_V1
      have z_V1:=zS hV_V1
      clear hV_V1
      refine (bRank_calls _ _ _ Hu.out _ hA).mono ?_
      rintro e_W2 W2 ⟨rfl,hb_W2⟩
      replace hA:=hA.below hb_W2
      replace hB:=below_step hB hb_W2
      have z_W2:=hb_W2.size
      clear hb_W2
      go_wp2_with fail
      go_ret
      exact ⟨rfl,by (repeat' first|with_reducible assumption|with_reducible exact Below.refl _ _|with_reducible refine Below.alloc ?_ ?_ _|with_reducible refine Below.setCell ?_ ?_ _|with_reducible refine below_drewN ?_ _|with_reducible refine Below.drew ?_|exact Nat.le_refl _|((try dsimp only);omega)|(simp only [siz_alloc,siz_set];omega))⟩
  | false=>
    rw [if_neg (by decide)] at hr
    refine minmax i (bLen s h) ?_ ?_ ?_ ?_<;>intro c1 c2 hm<;>rw [hm] at hu hr<;>clear hm<;>subst hr
    all_goals
      have Hu:=Lib.hid hu;clear hu
      go_enter Tryz.func127,Tryz.ntmps127
      go_wp2_with fail
      refine calls_gen fun V hV_V=> ?_
      have hB:Below w.heap.size w V:=nB hV_V
      replace hA:AP V ap s O:=nA hV_V
      have z_V:=zS hV_V
      clear hV_V
      refine (bLen_calls _ _ hA).mono ?_
      rintro e_W1 W1 ⟨rfl,hb_W1⟩
      replace hA:=hA.below hb_W1
      replace hB:=below_step hB hb_W1
      have z_W1:=hb_W1.size
      clear hb_W1
      go_wp2_with fail
      refine calls_gen fun V1 hV_V1=> ?_
      replace hB:Below w.heap.size w V1:=nB hV_V1
      replace hA:AP V1 ap s O:=nA hV_V1
      have z_V1:=zS hV_V1
      clear hV_V1
      refine (bRank_calls _ _ _ Hu.out _ hA).mono ?_
      rintro e_W2 W2 ⟨rfl,hb_W2⟩
      replace hA:=hA.below hb_W2
      replace hB:=below_step hB hb_W2
      have z_W2:=hb_W2.size
      clear hb_W2
      go_wp2_with fail
      go_ret
      exact ⟨by first|rfl|(simp only [Int.zero_sub];rfl),by (repeat' first|with_reducible assumption|with_reducible exact Below.refl _ _|with_reducible refine Below.alloc ?_ ?_ _|with_reducible refine Below.setCell ?_ ?_ _|with_reducible refine below_drewN ?_ _|with_reducible refine Below.drew ?_|exact Nat.le_refl _|((try dsimp only);omega)|(simp only [siz_alloc,siz_set];omega))⟩
end Go.Proofs.YtdjpjmkpndmhaaaGreat
namespace Go.Proofs.YtdjpjmkpndmhaaaGreat
open Go.RowKit
attribute [local go_sem ↓] Go.wp_at_zero Go.wp_at_succ
set_option maxHeartbeats 400000 in
theorem symBit_out (x l:Int) (h:x<0∨257≤x∨l<0∨9≤l) (w:World):Calls Tryz.prog 129 #[.int .i64 x, .int .i64 l] w fun e w'=>e= .returned (.bool false)∧w=w':=by
  by_cases h1:x<0
  · have d1:decide (x<0)=true:=by simpa using h1
    go_enter Tryz.func129,Tryz.ntmps129
    go_wp2_with fail
    go_ret
    exact ⟨rfl,rfl⟩
  · have d1:decide (x<0)=false:=by simpa using h1
    by_cases h2:257≤x
    · have d2:decide (257≤x)=true:=by simpa using h2
      go_enter Tryz.func129,Tryz.ntmps129
      go_wp2_with fail
      go_ret
      exact ⟨rfl,rfl⟩
    · have d2:decide (257≤x)=false:=by simpa using h2
      by_cases h3:l<0
      · have d3:decide (l<0)=true:=by simpa using h3
        go_enter Tryz.func129,Tryz.ntmps129
        go_wp2_with fail
        go_ret
        exact ⟨rfl,rfl⟩
      · have d3:decide (l<0)=false:=by simpa using h3
        have d4:decide (9≤l)=true:=by simp;omega
        go_enter Tryz.func129,Tryz.ntmps129
        go_wp2_with fail
        go_ret
        exact ⟨rfl,rfl⟩
theorem and_one_i64 (E:Int):bits BinOp.and IntKind.i64 E 1=E % 2:=by
  have h1:(BitVec.ofInt 64 1).toNat=2 ^ 1 - 1:=by decide
  have key:(BitVec.ofInt 64 E&&&BitVec.ofInt 64 1).toNat=(E % ((2 ^ 64:Nat):Int)).toNat % 2 ^ 1:=by
    rw [BitVec.toNat_and,BitVec.toNat_ofInt,h1,Nat.and_two_pow_sub_one_eq_mod]
  show IntKind.i64.wrap ((BitVec.ofInt 64 E&&&BitVec.ofInt 64 1).toNat:Nat)=E % 2
  rw [key,IntKind.wrap_i64]
  omega
set_option maxHeartbeats 1000000 in
theorem symBit_in (n k:Nat) (hn:n<257) (hk:k<9) (w:World):Calls Tryz.prog 129 #[.int .i64 (n:Int), .int .i64 (k:Int)] w fun e w'=>e= .returned (.bool (n.testBit (8 - k)))∧w=w':=by
  have d1:decide ((n:Int)<0)=false:=by simp
  have d2:decide (257≤(n:Int))=false:=by simp;omega
  have d3:decide ((k:Int)<0)=false:=by simp
  have d4:decide (9≤(k:Int))=false:=by simp;omega
  go_enter Tryz.func129,Tryz.ntmps129
  go_wp2_with fail
  go_ret
  refine ⟨?_,rfl⟩
  show Ending.returned (.bool (bits BinOp.and IntKind.i64 ((n:Int)/2 ^ (8 - k)) 1==1))=_
  rw [and_one_i64]
  congr 2
  rw [Nat.testBit,Nat.shiftRight_eq_div_pow,Nat.and_comm,Nat.and_one_is_mod]
  rw [show ((n:Int)/2 ^ (8 - k))=((n/2 ^ (8 - k):Nat):Int) by simp]
  generalize n/2 ^ (8 - k)=m
  rcases Nat.mod_two_eq_zero_or_one m with h|h
  · rw [h,show ((m:Int) % 2)=0 by omega];rfl
  · rw [h,show ((m:Int) % 2)=1 by omega];rfl
theorem symBit_calls (x l:Int) (w:World):Calls Tryz.prog 129 #[.int .i64 x, .int .i64 l] w fun e w'=>e= .returned (.bool (symBit x l))∧w=w':=by
  by_cases h:x<0∨257≤x∨l<0∨9≤l
  · have e : symBit x l = false := by
      unfold symBit
      rcases h with h|h|h|h
      · rw [show decide (0≤x)=false by simpa using h];simp
      · rw [show decide (x<257)=false by simpa using h];simp
      · rw [show decide (0≤l)=false by simpa using h];simp
      · rw [show decide (l<9)=false by simpa using h];simp
    rw [e];exact symBit_out x l h w
  · obtain ⟨n,rfl⟩:=Int.eq_ofNat_of_zero_le (show 0≤x by omega)
    obtain ⟨k,rfl⟩:=Int.eq_ofNat_of_zero_le (show 0≤l by omega)
    have e:symBit n k=n.testBit (8 - k):=by
      unfold symBit
      rw [show decide ((n:Int)<257)=true by simp;omega,show decide ((k:Int)<9)=true by simp;omega,show (8 - (k:Int)).toNat=8 - k by omega]
      simp
    rw [e];exact symBit_in n k (by omega) (by omega) w
end Go.Proofs.YtdjpjmkpndmhaaaGreat
