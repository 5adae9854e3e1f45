/- Part 2 of what CutStops needs: the walks of the program's functions, and plain facts. -/
import Derived.Test.YtmlmnmkhigjaaaaGreatCutStopsM1
import Derived.Test.YtmlmnmkhigjaaaaGreatProg
import Derived.ArgAppend
set_option linter.unusedSimpArgs false
set_option linter.unusedVariables false
set_option linter.unnecessarySimpa false
namespace Go.Proofs.YtmlmnmkhigjaaaaGreat
set_option maxRecDepth 100000
set_option maxHeartbeats 8000000
section
open Go.RowKit
attribute [local go_sem ↓] Go.wp_at_zero Go.wp_at_succ
attribute [local go_sem] lt_s2 lt_s3 lt_s4
variable {ap : Value} {s : Ar} {O : Nat → Prop}
theorem bRow_no (h:Int) (h1:s.has h=false) (w:World) (hA:AP w ap s O):
  Calls Tryz.prog 256 #[ap, .int .i64 h] w fun e w'=>e= .returned (.tuple #[(s.get h).val, .bool false])∧Below w.heap.size w w':=by
 unfold Nd.val
 go_enter Tryz.func256,Tryz.ntmps256
 go_wp2_with fail
 refine cg fun V hV_V=> ?_
 have hB:=Below.refl w.heap.size w
 refine nna0 hV_V hA hB ?_;clear hA hB;intro hn_V z_V hA hB
 obtain ⟨k0,c_k0,o_k0,l_k0V⟩:=nN hn_V hV_V (w.heap.size)
 clear hV_V hn_V
 refine rC (aget_calls _ _ hA) fun w1 hb_w1=> ?_
 refine bea1 hb_w1 hA hB k0 ?_;clear hb_w1 hA hB k0 c_k0;intro z_w1 hA hB k0 c_k0
 unfold Nd.val
 go_wp2_with fail
 refine wg fun V1 hV_V1=> ?_
 refine nna1 hV_V1 hA hB k0 ?_;clear hA hB k0 c_k0;intro hn_V1 z_V1 hA hB k0 c_k0
 obtain ⟨k1,c_k1,o_k1,l_k1V1⟩:=nN hn_V1 hV_V1 (w1.heap.size)
 clear hV_V1 hn_V1
 refine dr (fun v=>Sm v V1 (w1.heap.size)∧(V1.heap.size≤v.heap.size)∧AP v ap s O) ⟨fun _=>rfl,Nat.le_refl _,hA.drew⟩ fun V1d hV_V1d hHeld=> ?_
 have v_k1:=c_k1.1
 refine nea2 hV_V1d hA hB k0 k1 ?_;clear hA hB k0 k1 c_k0 c_k1;intro z_V1d hA hB k0 c_k0 k1 c_k1
 clear hV_V1d
 refine ta 0 hHeld ?_
 refine ta 1 hHeld ?_
 refine ta 2 hHeld ?_
 refine tno 3 hHeld ?_
 refine tno 4 hHeld ?_
 refine tno 5 hHeld ?_
 refine tno 6 hHeld ?_
 refine ta 7 hHeld ?_
 refine ta 8 hHeld ?_
 refine tno 9 hHeld ?_
 refine tno 10 hHeld ?_
 refine tno 11 hHeld ?_
 refine tno 12 hHeld ?_
 refine tno 13 hHeld ?_
 refine tno 14 hHeld ?_
 refine tno 15 hHeld ?_
 refine tno 16 hHeld ?_
 refine ta 17 hHeld ?_
 refine rd 18 rfl fun K hK=> ?_
 go_simp
 refine ga (K:=K) fun D hV_D=> ?_
 refine nea2 hV_D hA hB k0 k1 ?_;clear hA hB k0 k1 c_k0 c_k1;intro z_D hA hB k0 c_k0 k1 c_k1
 clear hV_D
 refine ho hK ⟨vv c_k1 v_k1,by omega,hA⟩ fun hHeld=> ?_
 clear hK K
 refine rd 19 rfl fun K hK=> ?_
 go_simp
 refine ho hK hHeld fun hHeld=> ?_
 clear hK K
 refine wd ?_
 go_wp2_with fail
 refine bodyPost_ret (v:= .tuple #[(s.get h).val, .bool false]) (by simp [results,Tryz.results256,go_sem,Nd.val, *]) rfl ⟨rfl,hB⟩
theorem bRow_dead (h:Int) (h1:s.has h=true) (h2: ¬0<s.cnt h) (w:World) (hA:AP w ap s O):
  Calls Tryz.prog 256 #[ap, .int .i64 h] w fun e w'=>e= .returned (.tuple #[(s.get h).val, .bool false])∧Below w.heap.size w w':=by
 unfold Nd.val
 have d1:decide (0<s.cnt h)=false:=by simpa using h2
 clear h2
 go_enter Tryz.func256,Tryz.ntmps256
 go_wp2_with fail
 refine cg fun V hV_V=> ?_
 have hB:=Below.refl w.heap.size w
 refine nna0 hV_V hA hB ?_;clear hA hB;intro hn_V z_V hA hB
 obtain ⟨k0,c_k0,o_k0,l_k0V⟩:=nN hn_V hV_V (w.heap.size)
 clear hV_V hn_V
 refine rC (aget_calls _ _ hA) fun w1 hb_w1=> ?_
 refine bea1 hb_w1 hA hB k0 ?_;clear hb_w1 hA hB k0 c_k0;intro z_w1 hA hB k0 c_k0
 unfold Nd.val
 go_wp2_with fail
 refine wg fun V1 hV_V1=> ?_
 refine nna1 hV_V1 hA hB k0 ?_;clear hA hB k0 c_k0;intro hn_V1 z_V1 hA hB k0 c_k0
 obtain ⟨k1,c_k1,o_k1,l_k1V1⟩:=nN hn_V1 hV_V1 (w1.heap.size)
 clear hV_V1 hn_V1
 refine dr (fun v=>Sm v V1 (w1.heap.size)∧(V1.heap.size≤v.heap.size)∧AP v ap s O) ⟨fun _=>rfl,Nat.le_refl _,hA.drew⟩ fun V1d hV_V1d hHeld=> ?_
 have v_k1:=c_k1.1
 refine nea2 hV_V1d hA hB k0 k1 ?_;clear hA hB k0 k1 c_k0 c_k1;intro z_V1d hA hB k0 c_k0 k1 c_k1
 clear hV_V1d
 refine ta 0 hHeld ?_
 refine ta 1 hHeld ?_
 refine ta 2 hHeld ?_
 refine ta 3 hHeld ?_
 refine ta 4 hHeld ?_
 refine take_call (i:=5) (f:= ?_) (args:= ?_) (v:= ?_) rfl (by kernel_rfl) (by kernel_rfl) (by kernel_rfl) (fun _ _ _ h=>h) (by rfl) hHeld ?_ (fun v hSv=> ?_) ?_
 rotate_left 3
 focus (intro v hSv;go_simp;constructor<;>with_reducible rfl)
 focus (obtain ⟨c0,zs,hAv⟩:=hSv;exact count_calls _ v hAv)
 try simp only [PT]
 refine ta 6 hHeld ?_
 refine ta 7 hHeld ?_
 refine ta 8 hHeld ?_
 refine tno 9 hHeld ?_
 refine tno 10 hHeld ?_
 refine tno 11 hHeld ?_
 refine tno 12 hHeld ?_
 refine tno 13 hHeld ?_
 refine tno 14 hHeld ?_
 refine tno 15 hHeld ?_
 refine tno 16 hHeld ?_
 refine ta 17 hHeld ?_
 refine rd 18 rfl fun K hK=> ?_
 go_simp
 refine ga (K:=K) fun D hV_D=> ?_
 refine nea2 hV_D hA hB k0 k1 ?_;clear hA hB k0 k1 c_k0 c_k1;intro z_D hA hB k0 c_k0 k1 c_k1
 clear hV_D
 refine ho hK ⟨vv c_k1 v_k1,by omega,hA⟩ fun hHeld=> ?_
 clear hK K
 refine rd 19 rfl fun K hK=> ?_
 go_simp
 refine ho hK hHeld fun hHeld=> ?_
 clear hK K
 refine wd ?_
 go_wp2_with fail
 refine bodyPost_ret (v:= .tuple #[(s.get h).val, .bool false]) (by simp [results,Tryz.results256,go_sem,Nd.val, *]) rfl ⟨rfl,hB⟩
theorem bRow_t1 (h:Int) (h1:s.has h=true) (h2:0<s.cnt h) (h3:(s.get h).tag=1) (w:World) (hA:AP w ap s O):
  Calls Tryz.prog 256 #[ap, .int .i64 h] w fun e w'=>e= .returned (.tuple #[(s.get h).val, .bool true])∧Below w.heap.size w w':=by
 unfold Nd.val
 have d1:decide (0<s.cnt h)=true:=by simpa using h2
 have d2:((s.get h).tag==1)=true:=by simpa using h3
 clear h2 h3
 go_enter Tryz.func256,Tryz.ntmps256
 go_wp2_with fail
 refine cg fun V hV_V=> ?_
 have hB:=Below.refl w.heap.size w
 refine nna0 hV_V hA hB ?_;clear hA hB;intro hn_V z_V hA hB
 obtain ⟨k0,c_k0,o_k0,l_k0V⟩:=nN hn_V hV_V (w.heap.size)
 clear hV_V hn_V
 refine rC (aget_calls _ _ hA) fun w1 hb_w1=> ?_
 refine bea1 hb_w1 hA hB k0 ?_;clear hb_w1 hA hB k0 c_k0;intro z_w1 hA hB k0 c_k0
 unfold Nd.val
 go_wp2_with fail
 refine wg fun V1 hV_V1=> ?_
 refine nna1 hV_V1 hA hB k0 ?_;clear hA hB k0 c_k0;intro hn_V1 z_V1 hA hB k0 c_k0
 obtain ⟨k1,c_k1,o_k1,l_k1V1⟩:=nN hn_V1 hV_V1 (w1.heap.size)
 clear hV_V1 hn_V1
 refine dr (fun v=>Sm v V1 (w1.heap.size)∧(V1.heap.size≤v.heap.size)∧AP v ap s O) ⟨fun _=>rfl,Nat.le_refl _,hA.drew⟩ fun V1d hV_V1d hHeld=> ?_
 have v_k1:=c_k1.1
 refine nea2 hV_V1d hA hB k0 k1 ?_;clear hA hB k0 k1 c_k0 c_k1;intro z_V1d hA hB k0 c_k0 k1 c_k1
 clear hV_V1d
 refine ta 0 hHeld ?_
 refine ta 1 hHeld ?_
 refine ta 2 hHeld ?_
 refine ta 3 hHeld ?_
 refine ta 4 hHeld ?_
 refine take_call (i:=5) (f:= ?_) (args:= ?_) (v:= ?_) rfl (by kernel_rfl) (by kernel_rfl) (by kernel_rfl) (fun _ _ _ h=>h) (by rfl) hHeld ?_ (fun v hSv=> ?_) ?_
 rotate_left 3
 focus (intro v hSv;go_simp;constructor<;>with_reducible rfl)
 focus (obtain ⟨c0,zs,hAv⟩:=hSv;exact count_calls _ v hAv)
 try simp only [PT]
 refine ta 6 hHeld ?_
 refine ta 7 hHeld ?_
 refine ta 8 hHeld ?_
 refine ta 9 hHeld ?_
 refine ta 10 hHeld ?_
 refine ta 11 hHeld ?_
 refine ta 12 hHeld ?_
 refine tno 13 hHeld ?_
 refine tno 14 hHeld ?_
 refine tno 15 hHeld ?_
 refine ta 16 hHeld ?_
 refine ta 17 hHeld ?_
 refine rd 18 rfl fun K hK=> ?_
 go_simp
 refine ga (K:=K) fun D hV_D=> ?_
 refine nea2 hV_D hA hB k0 k1 ?_;clear hA hB k0 k1 c_k0 c_k1;intro z_D hA hB k0 c_k0 k1 c_k1
 clear hV_D
 refine ho hK ⟨vv c_k1 v_k1,by omega,hA⟩ fun hHeld=> ?_
 clear hK K
 refine rd 19 rfl fun K hK=> ?_
 go_simp
 refine ho hK hHeld fun hHeld=> ?_
 clear hK K
 refine wd ?_
 go_wp2_with fail
 refine bodyPost_ret (v:= .tuple #[(s.get h).val, .bool true]) (by simp [results,Tryz.results256,go_sem,Nd.val, *]) rfl ⟨rfl,hB⟩
theorem bRow_t2 (h:Int) (h1:s.has h=true) (h2:0<s.cnt h) (h3:(s.get h).tag=2) (w:World) (hA:AP w ap s O):
  Calls Tryz.prog 256 #[ap, .int .i64 h] w fun e w'=>e= .returned (.tuple #[(s.get h).val, .bool true])∧Below w.heap.size w w':=by
 unfold Nd.val
 have d1:decide (0<s.cnt h)=true:=by simpa using h2
 have d2:((s.get h).tag==1)=false:=by simp [h3]
 have d3:((s.get h).tag==2)=true:=by simpa using h3
 clear h2 h3
 go_enter Tryz.func256,Tryz.ntmps256
 go_wp2_with fail
 refine cg fun V hV_V=> ?_
 have hB:=Below.refl w.heap.size w
 refine nna0 hV_V hA hB ?_;clear hA hB;intro hn_V z_V hA hB
 obtain ⟨k0,c_k0,o_k0,l_k0V⟩:=nN hn_V hV_V (w.heap.size)
 clear hV_V hn_V
 refine rC (aget_calls _ _ hA) fun w1 hb_w1=> ?_
 refine bea1 hb_w1 hA hB k0 ?_;clear hb_w1 hA hB k0 c_k0;intro z_w1 hA hB k0 c_k0
 unfold Nd.val
 go_wp2_with fail
 refine wg fun V1 hV_V1=> ?_
 refine nna1 hV_V1 hA hB k0 ?_;clear hA hB k0 c_k0;intro hn_V1 z_V1 hA hB k0 c_k0
 obtain ⟨k1,c_k1,o_k1,l_k1V1⟩:=nN hn_V1 hV_V1 (w1.heap.size)
 clear hV_V1 hn_V1
 refine dr (fun v=>Sm v V1 (w1.heap.size)∧(V1.heap.size≤v.heap.size)∧AP v ap s O) ⟨fun _=>rfl,Nat.le_refl _,hA.drew⟩ fun V1d hV_V1d hHeld=> ?_
 have v_k1:=c_k1.1
 refine nea2 hV_V1d hA hB k0 k1 ?_;clear hA hB k0 k1 c_k0 c_k1;intro z_V1d hA hB k0 c_k0 k1 c_k1
 clear hV_V1d
 refine ta 0 hHeld ?_
 refine ta 1 hHeld ?_
 refine ta 2 hHeld ?_
 refine ta 3 hHeld ?_
 refine ta 4 hHeld ?_
 refine take_call (i:=5) (f:= ?_) (args:= ?_) (v:= ?_) rfl (by kernel_rfl) (by kernel_rfl) (by kernel_rfl) (fun _ _ _ h=>h) (by rfl) hHeld ?_ (fun v hSv=> ?_) ?_
 rotate_left 3
 focus (intro v hSv;go_simp;constructor<;>with_reducible rfl)
 focus (obtain ⟨c0,zs,hAv⟩:=hSv;exact count_calls _ v hAv)
 try simp only [PT]
 refine ta 6 hHeld ?_
 refine ta 7 hHeld ?_
 refine ta 8 hHeld ?_
 refine ta 9 hHeld ?_
 refine ta 10 hHeld ?_
 refine ta 11 hHeld ?_
 refine ta 12 hHeld ?_
 refine ta 13 hHeld ?_
 refine ta 14 hHeld ?_
 refine ta 15 hHeld ?_
 refine ta 16 hHeld ?_
 refine ta 17 hHeld ?_
 refine rd 18 rfl fun K hK=> ?_
 go_simp
 refine ga (K:=K) fun D hV_D=> ?_
 refine nea2 hV_D hA hB k0 k1 ?_;clear hA hB k0 k1 c_k0 c_k1;intro z_D hA hB k0 c_k0 k1 c_k1
 clear hV_D
 refine ho hK ⟨vv c_k1 v_k1,by omega,hA⟩ fun hHeld=> ?_
 clear hK K
 refine rd 19 rfl fun K hK=> ?_
 go_simp
 refine ho hK hHeld fun hHeld=> ?_
 clear hK K
 refine wd ?_
 go_wp2_with fail
 refine bodyPost_ret (v:= .tuple #[(s.get h).val, .bool true]) (by simp [results,Tryz.results256,go_sem,Nd.val, *]) rfl ⟨rfl,hB⟩
theorem bRow_t3 (h:Int) (h1:s.has h=true) (h2:0<s.cnt h) (h3:(s.get h).tag≠1) (h4:(s.get h).tag≠2) (w:World) (hA:AP w ap s O):
  Calls Tryz.prog 256 #[ap, .int .i64 h] w fun e w'=>e= .returned (.tuple #[(s.get h).val, .bool false])∧Below w.heap.size w w':=by
 unfold Nd.val
 have d1:decide (0<s.cnt h)=true:=by simpa using h2
 have d2:((s.get h).tag==1)=false:=by simpa using h3
 have d3:((s.get h).tag==2)=false:=by simpa using h4
 clear h2 h3 h4
 go_enter Tryz.func256,Tryz.ntmps256
 go_wp2_with fail
 refine cg fun V hV_V=> ?_
 have hB:=Below.refl w.heap.size w
 refine nna0 hV_V hA hB ?_;clear hA hB;intro hn_V z_V hA hB
 obtain ⟨k0,c_k0,o_k0,l_k0V⟩:=nN hn_V hV_V (w.heap.size)
 clear hV_V hn_V
 refine rC (aget_calls _ _ hA) fun w1 hb_w1=> ?_
 refine bea1 hb_w1 hA hB k0 ?_;clear hb_w1 hA hB k0 c_k0;intro z_w1 hA hB k0 c_k0
 unfold Nd.val
 go_wp2_with fail
 refine wg fun V1 hV_V1=> ?_
 refine nna1 hV_V1 hA hB k0 ?_;clear hA hB k0 c_k0;intro hn_V1 z_V1 hA hB k0 c_k0
 obtain ⟨k1,c_k1,o_k1,l_k1V1⟩:=nN hn_V1 hV_V1 (w1.heap.size)
 clear hV_V1 hn_V1
 refine dr (fun v=>Sm v V1 (w1.heap.size)∧(V1.heap.size≤v.heap.size)∧AP v ap s O) ⟨fun _=>rfl,Nat.le_refl _,hA.drew⟩ fun V1d hV_V1d hHeld=> ?_
 have v_k1:=c_k1.1
 refine nea2 hV_V1d hA hB k0 k1 ?_;clear hA hB k0 k1 c_k0 c_k1;intro z_V1d hA hB k0 c_k0 k1 c_k1
 clear hV_V1d
 refine ta 0 hHeld ?_
 refine ta 1 hHeld ?_
 refine ta 2 hHeld ?_
 refine ta 3 hHeld ?_
 refine ta 4 hHeld ?_
 refine take_call (i:=5) (f:= ?_) (args:= ?_) (v:= ?_) rfl (by kernel_rfl) (by kernel_rfl) (by kernel_rfl) (fun _ _ _ h=>h) (by rfl) hHeld ?_ (fun v hSv=> ?_) ?_
 rotate_left 3
 focus (intro v hSv;go_simp;constructor<;>with_reducible rfl)
 focus (obtain ⟨c0,zs,hAv⟩:=hSv;exact count_calls _ v hAv)
 try simp only [PT]
 refine ta 6 hHeld ?_
 refine ta 7 hHeld ?_
 refine ta 8 hHeld ?_
 refine ta 9 hHeld ?_
 refine ta 10 hHeld ?_
 refine ta 11 hHeld ?_
 refine ta 12 hHeld ?_
 refine ta 13 hHeld ?_
 refine ta 14 hHeld ?_
 refine ta 15 hHeld ?_
 refine ta 16 hHeld ?_
 refine ta 17 hHeld ?_
 refine rd 18 rfl fun K hK=> ?_
 go_simp
 refine ga (K:=K) fun D hV_D=> ?_
 refine nea2 hV_D hA hB k0 k1 ?_;clear hA hB k0 k1 c_k0 c_k1;intro z_D hA hB k0 c_k0 k1 c_k1
 clear hV_D
 refine ho hK ⟨vv c_k1 v_k1,by omega,hA⟩ fun hHeld=> ?_
 clear hK K
 refine rd 19 rfl fun K hK=> ?_
 go_simp
 refine ho hK hHeld fun hHeld=> ?_
 clear hK K
 refine wd ?_
 go_wp2_with fail
 refine bodyPost_ret (v:= .tuple #[(s.get h).val, .bool false]) (by simp [results,Tryz.results256,go_sem,Nd.val, *]) rfl ⟨rfl,hB⟩
theorem bRow_calls (h:Int) (w:World) (hA:AP w ap s O):
  Calls Tryz.prog 256 #[ap, .int .i64 h] w fun e w'=>e= .returned (.tuple #[(s.get h).val, .bool (bIs s h)])∧Below w.heap.size w w':=by
 cases h1:s.has h with
 | false=>unfold bIs;rw [h1];exact bRow_no h h1 w hA
 | true=>
  by_cases h2:0<s.cnt h
  ·
   by_cases h3:(s.get h).tag=1
   ·
    have e:bIs s h=true:=by unfold bIs;rw [h1];simp [h2,h3]
    rw [e];exact bRow_t1 h h1 h2 h3 w hA
   ·
    by_cases h4:(s.get h).tag=2
    ·
     have e:bIs s h=true:=by unfold bIs;rw [h1];simp [h2,h4]
     rw [e];exact bRow_t2 h h1 h2 h4 w hA
    ·
     have e:bIs s h=false:=by unfold bIs;rw [h1];simp [h3,h4]
     rw [e];exact bRow_t3 h h1 h2 h3 h4 w hA
  ·
   have e:bIs s h=false:=by unfold bIs;rw [h1];simp [h2]
   rw [e];exact bRow_dead h h1 h2 w hA
theorem lRow_no (h:Int) (h1:s.has h=false) (w:World) (hA:AP w ap s O):
  Calls Tryz.prog 264 #[ap, .int .i64 h] w fun e w'=>e= .returned (.tuple #[(s.get h).val, .bool false])∧Below w.heap.size w w':=by
 unfold Nd.val
 go_enter Tryz.func264,Tryz.ntmps264
 go_wp2_with fail
 refine cg fun V hV_V=> ?_
 have hB:=Below.refl w.heap.size w
 refine nna0 hV_V hA hB ?_;clear hA hB;intro hn_V z_V hA hB
 obtain ⟨k0,c_k0,o_k0,l_k0V⟩:=nN hn_V hV_V (w.heap.size)
 clear hV_V hn_V
 refine rC (aget_calls _ _ hA) fun w1 hb_w1=> ?_
 refine bea1 hb_w1 hA hB k0 ?_;clear hb_w1 hA hB k0 c_k0;intro z_w1 hA hB k0 c_k0
 unfold Nd.val
 go_wp2_with fail
 refine wg fun V1 hV_V1=> ?_
 refine nna1 hV_V1 hA hB k0 ?_;clear hA hB k0 c_k0;intro hn_V1 z_V1 hA hB k0 c_k0
 obtain ⟨k1,c_k1,o_k1,l_k1V1⟩:=nN hn_V1 hV_V1 (w1.heap.size)
 clear hV_V1 hn_V1
 refine dr (fun v=>Sm v V1 (w1.heap.size)∧(V1.heap.size≤v.heap.size)∧AP v ap s O) ⟨fun _=>rfl,Nat.le_refl _,hA.drew⟩ fun V1d hV_V1d hHeld=> ?_
 have v_k1:=c_k1.1
 refine nea2 hV_V1d hA hB k0 k1 ?_;clear hA hB k0 k1 c_k0 c_k1;intro z_V1d hA hB k0 c_k0 k1 c_k1
 clear hV_V1d
 refine ta 0 hHeld ?_
 refine ta 1 hHeld ?_
 refine ta 2 hHeld ?_
 refine tno 3 hHeld ?_
 refine tno 4 hHeld ?_
 refine tno 5 hHeld ?_
 refine tno 6 hHeld ?_
 refine ta 7 hHeld ?_
 refine ta 8 hHeld ?_
 refine tno 9 hHeld ?_
 refine tno 10 hHeld ?_
 refine tno 11 hHeld ?_
 refine tno 12 hHeld ?_
 refine tno 13 hHeld ?_
 refine tno 14 hHeld ?_
 refine tno 15 hHeld ?_
 refine tno 16 hHeld ?_
 refine ta 17 hHeld ?_
 refine rd 18 rfl fun K hK=> ?_
 go_simp
 refine ga (K:=K) fun D hV_D=> ?_
 refine nea2 hV_D hA hB k0 k1 ?_;clear hA hB k0 k1 c_k0 c_k1;intro z_D hA hB k0 c_k0 k1 c_k1
 clear hV_D
 refine ho hK ⟨vv c_k1 v_k1,by omega,hA⟩ fun hHeld=> ?_
 clear hK K
 refine rd 19 rfl fun K hK=> ?_
 go_simp
 refine ho hK hHeld fun hHeld=> ?_
 clear hK K
 refine wd ?_
 go_wp2_with fail
 refine bodyPost_ret (v:= .tuple #[(s.get h).val, .bool false]) (by simp [results,Tryz.results264,go_sem,Nd.val, *]) rfl ⟨rfl,hB⟩
theorem lRow_dead (h:Int) (h1:s.has h=true) (h2: ¬0<s.cnt h) (w:World) (hA:AP w ap s O):
  Calls Tryz.prog 264 #[ap, .int .i64 h] w fun e w'=>e= .returned (.tuple #[(s.get h).val, .bool false])∧Below w.heap.size w w':=by
 unfold Nd.val
 have d1:decide (0<s.cnt h)=false:=by simpa using h2
 clear h2
 go_enter Tryz.func264,Tryz.ntmps264
 go_wp2_with fail
 refine cg fun V hV_V=> ?_
 have hB:=Below.refl w.heap.size w
 refine nna0 hV_V hA hB ?_;clear hA hB;intro hn_V z_V hA hB
 obtain ⟨k0,c_k0,o_k0,l_k0V⟩:=nN hn_V hV_V (w.heap.size)
 clear hV_V hn_V
 refine rC (aget_calls _ _ hA) fun w1 hb_w1=> ?_
 refine bea1 hb_w1 hA hB k0 ?_;clear hb_w1 hA hB k0 c_k0;intro z_w1 hA hB k0 c_k0
 unfold Nd.val
 go_wp2_with fail
 refine wg fun V1 hV_V1=> ?_
 refine nna1 hV_V1 hA hB k0 ?_;clear hA hB k0 c_k0;intro hn_V1 z_V1 hA hB k0 c_k0
 obtain ⟨k1,c_k1,o_k1,l_k1V1⟩:=nN hn_V1 hV_V1 (w1.heap.size)
 clear hV_V1 hn_V1
 refine dr (fun v=>Sm v V1 (w1.heap.size)∧(V1.heap.size≤v.heap.size)∧AP v ap s O) ⟨fun _=>rfl,Nat.le_refl _,hA.drew⟩ fun V1d hV_V1d hHeld=> ?_
 have v_k1:=c_k1.1
 refine nea2 hV_V1d hA hB k0 k1 ?_;clear hA hB k0 k1 c_k0 c_k1;intro z_V1d hA hB k0 c_k0 k1 c_k1
 clear hV_V1d
 refine ta 0 hHeld ?_
 refine ta 1 hHeld ?_
 refine ta 2 hHeld ?_
 refine ta 3 hHeld ?_
 refine ta 4 hHeld ?_
 refine take_call (i:=5) (f:= ?_) (args:= ?_) (v:= ?_) rfl (by kernel_rfl) (by kernel_rfl) (by kernel_rfl) (fun _ _ _ h=>h) (by rfl) hHeld ?_ (fun v hSv=> ?_) ?_
 rotate_left 3
 focus (intro v hSv;go_simp;constructor<;>with_reducible rfl)
 focus (obtain ⟨c0,zs,hAv⟩:=hSv;exact count_calls _ v hAv)
 try simp only [PT]
 refine ta 6 hHeld ?_
 refine ta 7 hHeld ?_
 refine ta 8 hHeld ?_
 refine tno 9 hHeld ?_
 refine tno 10 hHeld ?_
 refine tno 11 hHeld ?_
 refine tno 12 hHeld ?_
 refine tno 13 hHeld ?_
 refine tno 14 hHeld ?_
 refine tno 15 hHeld ?_
 refine tno 16 hHeld ?_
 refine ta 17 hHeld ?_
 refine rd 18 rfl fun K hK=> ?_
 go_simp
 refine ga (K:=K) fun D hV_D=> ?_
 refine nea2 hV_D hA hB k0 k1 ?_;clear hA hB k0 k1 c_k0 c_k1;intro z_D hA hB k0 c_k0 k1 c_k1
 clear hV_D
 refine ho hK ⟨vv c_k1 v_k1,by omega,hA⟩ fun hHeld=> ?_
 clear hK K
 refine rd 19 rfl fun K hK=> ?_
 go_simp
 refine ho hK hHeld fun hHeld=> ?_
 clear hK K
 refine wd ?_
 go_wp2_with fail
 refine bodyPost_ret (v:= .tuple #[(s.get h).val, .bool false]) (by simp [results,Tryz.results264,go_sem,Nd.val, *]) rfl ⟨rfl,hB⟩
theorem lRow_t1 (h:Int) (h1:s.has h=true) (h2:0<s.cnt h) (h3:(s.get h).tag=4) (w:World) (hA:AP w ap s O):
  Calls Tryz.prog 264 #[ap, .int .i64 h] w fun e w'=>e= .returned (.tuple #[(s.get h).val, .bool true])∧Below w.heap.size w w':=by
 unfold Nd.val
 have d1:decide (0<s.cnt h)=true:=by simpa using h2
 have d2:((s.get h).tag==4)=true:=by simpa using h3
 clear h2 h3
 go_enter Tryz.func264,Tryz.ntmps264
 go_wp2_with fail
 refine cg fun V hV_V=> ?_
 have hB:=Below.refl w.heap.size w
 refine nna0 hV_V hA hB ?_;clear hA hB;intro hn_V z_V hA hB
 obtain ⟨k0,c_k0,o_k0,l_k0V⟩:=nN hn_V hV_V (w.heap.size)
 clear hV_V hn_V
 refine rC (aget_calls _ _ hA) fun w1 hb_w1=> ?_
 refine bea1 hb_w1 hA hB k0 ?_;clear hb_w1 hA hB k0 c_k0;intro z_w1 hA hB k0 c_k0
 unfold Nd.val
 go_wp2_with fail
 refine wg fun V1 hV_V1=> ?_
 refine nna1 hV_V1 hA hB k0 ?_;clear hA hB k0 c_k0;intro hn_V1 z_V1 hA hB k0 c_k0
 obtain ⟨k1,c_k1,o_k1,l_k1V1⟩:=nN hn_V1 hV_V1 (w1.heap.size)
 clear hV_V1 hn_V1
 refine dr (fun v=>Sm v V1 (w1.heap.size)∧(V1.heap.size≤v.heap.size)∧AP v ap s O) ⟨fun _=>rfl,Nat.le_refl _,hA.drew⟩ fun V1d hV_V1d hHeld=> ?_
 have v_k1:=c_k1.1
 refine nea2 hV_V1d hA hB k0 k1 ?_;clear hA hB k0 k1 c_k0 c_k1;intro z_V1d hA hB k0 c_k0 k1 c_k1
 clear hV_V1d
 refine ta 0 hHeld ?_
 refine ta 1 hHeld ?_
 refine ta 2 hHeld ?_
 refine ta 3 hHeld ?_
 refine ta 4 hHeld ?_
 refine take_call (i:=5) (f:= ?_) (args:= ?_) (v:= ?_) rfl (by kernel_rfl) (by kernel_rfl) (by kernel_rfl) (fun _ _ _ h=>h) (by rfl) hHeld ?_ (fun v hSv=> ?_) ?_
 rotate_left 3
 focus (intro v hSv;go_simp;constructor<;>with_reducible rfl)
 focus (obtain ⟨c0,zs,hAv⟩:=hSv;exact count_calls _ v hAv)
 try simp only [PT]
 refine ta 6 hHeld ?_
 refine ta 7 hHeld ?_
 refine ta 8 hHeld ?_
 refine ta 9 hHeld ?_
 refine ta 10 hHeld ?_
 refine ta 11 hHeld ?_
 refine ta 12 hHeld ?_
 refine tno 13 hHeld ?_
 refine tno 14 hHeld ?_
 refine tno 15 hHeld ?_
 refine ta 16 hHeld ?_
 refine ta 17 hHeld ?_
 refine rd 18 rfl fun K hK=> ?_
 go_simp
 refine ga (K:=K) fun D hV_D=> ?_
 refine nea2 hV_D hA hB k0 k1 ?_;clear hA hB k0 k1 c_k0 c_k1;intro z_D hA hB k0 c_k0 k1 c_k1
 clear hV_D
 refine ho hK ⟨vv c_k1 v_k1,by omega,hA⟩ fun hHeld=> ?_
 clear hK K
 refine rd 19 rfl fun K hK=> ?_
 go_simp
 refine ho hK hHeld fun hHeld=> ?_
 clear hK K
 refine wd ?_
 go_wp2_with fail
 refine bodyPost_ret (v:= .tuple #[(s.get h).val, .bool true]) (by simp [results,Tryz.results264,go_sem,Nd.val, *]) rfl ⟨rfl,hB⟩
theorem lRow_t2 (h:Int) (h1:s.has h=true) (h2:0<s.cnt h) (h3:(s.get h).tag=5) (w:World) (hA:AP w ap s O):
  Calls Tryz.prog 264 #[ap, .int .i64 h] w fun e w'=>e= .returned (.tuple #[(s.get h).val, .bool true])∧Below w.heap.size w w':=by
 unfold Nd.val
 have d1:decide (0<s.cnt h)=true:=by simpa using h2
 have d2:((s.get h).tag==4)=false:=by simp [h3]
 have d3:((s.get h).tag==5)=true:=by simpa using h3
 clear h2 h3
 go_enter Tryz.func264,Tryz.ntmps264
 go_wp2_with fail
 refine cg fun V hV_V=> ?_
 have hB:=Below.refl w.heap.size w
 refine nna0 hV_V hA hB ?_;clear hA hB;intro hn_V z_V hA hB
 obtain ⟨k0,c_k0,o_k0,l_k0V⟩:=nN hn_V hV_V (w.heap.size)
 clear hV_V hn_V
 refine rC (aget_calls _ _ hA) fun w1 hb_w1=> ?_
 refine bea1 hb_w1 hA hB k0 ?_;clear hb_w1 hA hB k0 c_k0;intro z_w1 hA hB k0 c_k0
 unfold Nd.val
 go_wp2_with fail
 refine wg fun V1 hV_V1=> ?_
 refine nna1 hV_V1 hA hB k0 ?_;clear hA hB k0 c_k0;intro hn_V1 z_V1 hA hB k0 c_k0
 obtain ⟨k1,c_k1,o_k1,l_k1V1⟩:=nN hn_V1 hV_V1 (w1.heap.size)
 clear hV_V1 hn_V1
 refine dr (fun v=>Sm v V1 (w1.heap.size)∧(V1.heap.size≤v.heap.size)∧AP v ap s O) ⟨fun _=>rfl,Nat.le_refl _,hA.drew⟩ fun V1d hV_V1d hHeld=> ?_
 have v_k1:=c_k1.1
 refine nea2 hV_V1d hA hB k0 k1 ?_;clear hA hB k0 k1 c_k0 c_k1;intro z_V1d hA hB k0 c_k0 k1 c_k1
 clear hV_V1d
 refine ta 0 hHeld ?_
 refine ta 1 hHeld ?_
 refine ta 2 hHeld ?_
 refine ta 3 hHeld ?_
 refine ta 4 hHeld ?_
 refine take_call (i:=5) (f:= ?_) (args:= ?_) (v:= ?_) rfl (by kernel_rfl) (by kernel_rfl) (by kernel_rfl) (fun _ _ _ h=>h) (by rfl) hHeld ?_ (fun v hSv=> ?_) ?_
 rotate_left 3
 focus (intro v hSv;go_simp;constructor<;>with_reducible rfl)
 focus (obtain ⟨c0,zs,hAv⟩:=hSv;exact count_calls _ v hAv)
 try simp only [PT]
 refine ta 6 hHeld ?_
 refine ta 7 hHeld ?_
 refine ta 8 hHeld ?_
 refine ta 9 hHeld ?_
 refine ta 10 hHeld ?_
 refine ta 11 hHeld ?_
 refine ta 12 hHeld ?_
 refine ta 13 hHeld ?_
 refine ta 14 hHeld ?_
 refine ta 15 hHeld ?_
 refine ta 16 hHeld ?_
 refine ta 17 hHeld ?_
 refine rd 18 rfl fun K hK=> ?_
 go_simp
 refine ga (K:=K) fun D hV_D=> ?_
 refine nea2 hV_D hA hB k0 k1 ?_;clear hA hB k0 k1 c_k0 c_k1;intro z_D hA hB k0 c_k0 k1 c_k1
 clear hV_D
 refine ho hK ⟨vv c_k1 v_k1,by omega,hA⟩ fun hHeld=> ?_
 clear hK K
 refine rd 19 rfl fun K hK=> ?_
 go_simp
 refine ho hK hHeld fun hHeld=> ?_
 clear hK K
 refine wd ?_
 go_wp2_with fail
 refine bodyPost_ret (v:= .tuple #[(s.get h).val, .bool true]) (by simp [results,Tryz.results264,go_sem,Nd.val, *]) rfl ⟨rfl,hB⟩
theorem lRow_t3 (h:Int) (h1:s.has h=true) (h2:0<s.cnt h) (h3:(s.get h).tag≠4) (h4:(s.get h).tag≠5) (w:World) (hA:AP w ap s O):
  Calls Tryz.prog 264 #[ap, .int .i64 h] w fun e w'=>e= .returned (.tuple #[(s.get h).val, .bool false])∧Below w.heap.size w w':=by
 unfold Nd.val
 have d1:decide (0<s.cnt h)=true:=by simpa using h2
 have d2:((s.get h).tag==4)=false:=by simpa using h3
 have d3:((s.get h).tag==5)=false:=by simpa using h4
 clear h2 h3 h4
 go_enter Tryz.func264,Tryz.ntmps264
 go_wp2_with fail
 refine cg fun V hV_V=> ?_
 have hB:=Below.refl w.heap.size w
 refine nna0 hV_V hA hB ?_;clear hA hB;intro hn_V z_V hA hB
 obtain ⟨k0,c_k0,o_k0,l_k0V⟩:=nN hn_V hV_V (w.heap.size)
 clear hV_V hn_V
 refine rC (aget_calls _ _ hA) fun w1 hb_w1=> ?_
 refine bea1 hb_w1 hA hB k0 ?_;clear hb_w1 hA hB k0 c_k0;intro z_w1 hA hB k0 c_k0
 unfold Nd.val
 go_wp2_with fail
 refine wg fun V1 hV_V1=> ?_
 refine nna1 hV_V1 hA hB k0 ?_;clear hA hB k0 c_k0;intro hn_V1 z_V1 hA hB k0 c_k0
 obtain ⟨k1,c_k1,o_k1,l_k1V1⟩:=nN hn_V1 hV_V1 (w1.heap.size)
 clear hV_V1 hn_V1
 refine dr (fun v=>Sm v V1 (w1.heap.size)∧(V1.heap.size≤v.heap.size)∧AP v ap s O) ⟨fun _=>rfl,Nat.le_refl _,hA.drew⟩ fun V1d hV_V1d hHeld=> ?_
 have v_k1:=c_k1.1
 refine nea2 hV_V1d hA hB k0 k1 ?_;clear hA hB k0 k1 c_k0 c_k1;intro z_V1d hA hB k0 c_k0 k1 c_k1
 clear hV_V1d
 refine ta 0 hHeld ?_
 refine ta 1 hHeld ?_
 refine ta 2 hHeld ?_
 refine ta 3 hHeld ?_
 refine ta 4 hHeld ?_
 refine take_call (i:=5) (f:= ?_) (args:= ?_) (v:= ?_) rfl (by kernel_rfl) (by kernel_rfl) (by kernel_rfl) (fun _ _ _ h=>h) (by rfl) hHeld ?_ (fun v hSv=> ?_) ?_
 rotate_left 3
 focus (intro v hSv;go_simp;constructor<;>with_reducible rfl)
 focus (obtain ⟨c0,zs,hAv⟩:=hSv;exact count_calls _ v hAv)
 try simp only [PT]
 refine ta 6 hHeld ?_
 refine ta 7 hHeld ?_
 refine ta 8 hHeld ?_
 refine ta 9 hHeld ?_
 refine ta 10 hHeld ?_
 refine ta 11 hHeld ?_
 refine ta 12 hHeld ?_
 refine ta 13 hHeld ?_
 refine ta 14 hHeld ?_
 refine ta 15 hHeld ?_
 refine ta 16 hHeld ?_
 refine ta 17 hHeld ?_
 refine rd 18 rfl fun K hK=> ?_
 go_simp
 refine ga (K:=K) fun D hV_D=> ?_
 refine nea2 hV_D hA hB k0 k1 ?_;clear hA hB k0 k1 c_k0 c_k1;intro z_D hA hB k0 c_k0 k1 c_k1
 clear hV_D
 refine ho hK ⟨vv c_k1 v_k1,by omega,hA⟩ fun hHeld=> ?_
 clear hK K
 refine rd 19 rfl fun K hK=> ?_
 go_simp
 refine ho hK hHeld fun hHeld=> ?_
 clear hK K
 refine wd ?_
 go_wp2_with fail
 refine bodyPost_ret (v:= .tuple #[(s.get h).val, .bool false]) (by simp [results,Tryz.results264,go_sem,Nd.val, *]) rfl ⟨rfl,hB⟩
theorem lRow_calls (h:Int) (w:World) (hA:AP w ap s O):
  Calls Tryz.prog 264 #[ap, .int .i64 h] w fun e w'=>e= .returned (.tuple #[(s.get h).val, .bool (lIs s h)])∧Below w.heap.size w w':=by
 cases h1:s.has h with
 | false=>unfold lIs;rw [h1];exact lRow_no h h1 w hA
 | true=>
  by_cases h2:0<s.cnt h
  ·
   by_cases h3:(s.get h).tag=4
   ·
    have e:lIs s h=true:=by unfold lIs;rw [h1];simp [h2,h3]
    rw [e];exact lRow_t1 h h1 h2 h3 w hA
   ·
    by_cases h4:(s.get h).tag=5
    ·
     have e:lIs s h=true:=by unfold lIs;rw [h1];simp [h2,h4]
     rw [e];exact lRow_t2 h h1 h2 h4 w hA
    ·
     have e:lIs s h=false:=by unfold lIs;rw [h1];simp [h3,h4]
     rw [e];exact lRow_t3 h h1 h2 h3 h4 w hA
  ·
   have e:lIs s h=false:=by unfold lIs;rw [h1];simp [h2]
   rw [e];exact lRow_dead h h1 h2 w hA
theorem wRow_no (h:Int) (h1:s.has h=false) (w:World) (hA:AP w ap s O):
  Calls Tryz.prog 200 #[ap, .int .i64 h] w fun e w'=>e= .returned (.tuple #[(s.get h).val, .bool false])∧Below w.heap.size w w':=by
 unfold Nd.val
 go_enter Tryz.func200,Tryz.ntmps200
 go_wp2_with fail
 refine cg fun V hV_V=> ?_
 have hB:=Below.refl w.heap.size w
 refine nna0 hV_V hA hB ?_;clear hA hB;intro hn_V z_V hA hB
 obtain ⟨k0,c_k0,o_k0,l_k0V⟩:=nN hn_V hV_V (w.heap.size)
 clear hV_V hn_V
 refine rC (aget_calls _ _ hA) fun w1 hb_w1=> ?_
 refine bea1 hb_w1 hA hB k0 ?_;clear hb_w1 hA hB k0 c_k0;intro z_w1 hA hB k0 c_k0
 unfold Nd.val
 go_wp2_with fail
 refine wg fun V1 hV_V1=> ?_
 refine nna1 hV_V1 hA hB k0 ?_;clear hA hB k0 c_k0;intro hn_V1 z_V1 hA hB k0 c_k0
 obtain ⟨k1,c_k1,o_k1,l_k1V1⟩:=nN hn_V1 hV_V1 (w1.heap.size)
 clear hV_V1 hn_V1
 refine dr (fun v=>Sm v V1 (w1.heap.size)∧(V1.heap.size≤v.heap.size)∧AP v ap s O) ⟨fun _=>rfl,Nat.le_refl _,hA.drew⟩ fun V1d hV_V1d hHeld=> ?_
 have v_k1:=c_k1.1
 refine nea2 hV_V1d hA hB k0 k1 ?_;clear hA hB k0 k1 c_k0 c_k1;intro z_V1d hA hB k0 c_k0 k1 c_k1
 clear hV_V1d
 refine ta 0 hHeld ?_
 refine ta 1 hHeld ?_
 refine ta 2 hHeld ?_
 refine tno 3 hHeld ?_
 refine tno 4 hHeld ?_
 refine tno 5 hHeld ?_
 refine tno 6 hHeld ?_
 refine ta 7 hHeld ?_
 refine ta 8 hHeld ?_
 refine tno 9 hHeld ?_
 refine tno 10 hHeld ?_
 refine tno 11 hHeld ?_
 refine ta 12 hHeld ?_
 refine rd 13 rfl fun K hK=> ?_
 go_simp
 refine ga (K:=K) fun D hV_D=> ?_
 refine nea2 hV_D hA hB k0 k1 ?_;clear hA hB k0 k1 c_k0 c_k1;intro z_D hA hB k0 c_k0 k1 c_k1
 clear hV_D
 refine ho hK ⟨vv c_k1 v_k1,by omega,hA⟩ fun hHeld=> ?_
 clear hK K
 refine rd 14 rfl fun K hK=> ?_
 go_simp
 refine ho hK hHeld fun hHeld=> ?_
 clear hK K
 refine wd ?_
 go_wp2_with fail
 refine bodyPost_ret (v:= .tuple #[(s.get h).val, .bool false]) (by simp [results,Tryz.results200,go_sem,Nd.val, *]) rfl ⟨rfl,hB⟩
theorem wRow_dead (h:Int) (h1:s.has h=true) (h2: ¬0<s.cnt h) (w:World) (hA:AP w ap s O):
  Calls Tryz.prog 200 #[ap, .int .i64 h] w fun e w'=>e= .returned (.tuple #[(s.get h).val, .bool false])∧Below w.heap.size w w':=by
 unfold Nd.val
 have d1:decide (0<s.cnt h)=false:=by simpa using h2
 clear h2
 go_enter Tryz.func200,Tryz.ntmps200
 go_wp2_with fail
 refine cg fun V hV_V=> ?_
 have hB:=Below.refl w.heap.size w
 refine nna0 hV_V hA hB ?_;clear hA hB;intro hn_V z_V hA hB
 obtain ⟨k0,c_k0,o_k0,l_k0V⟩:=nN hn_V hV_V (w.heap.size)
 clear hV_V hn_V
 refine rC (aget_calls _ _ hA) fun w1 hb_w1=> ?_
 refine bea1 hb_w1 hA hB k0 ?_;clear hb_w1 hA hB k0 c_k0;intro z_w1 hA hB k0 c_k0
 unfold Nd.val
 go_wp2_with fail
 refine wg fun V1 hV_V1=> ?_
 refine nna1 hV_V1 hA hB k0 ?_;clear hA hB k0 c_k0;intro hn_V1 z_V1 hA hB k0 c_k0
 obtain ⟨k1,c_k1,o_k1,l_k1V1⟩:=nN hn_V1 hV_V1 (w1.heap.size)
 clear hV_V1 hn_V1
 refine dr (fun v=>Sm v V1 (w1.heap.size)∧(V1.heap.size≤v.heap.size)∧AP v ap s O) ⟨fun _=>rfl,Nat.le_refl _,hA.drew⟩ fun V1d hV_V1d hHeld=> ?_
 have v_k1:=c_k1.1
 refine nea2 hV_V1d hA hB k0 k1 ?_;clear hA hB k0 k1 c_k0 c_k1;intro z_V1d hA hB k0 c_k0 k1 c_k1
 clear hV_V1d
 refine ta 0 hHeld ?_
 refine ta 1 hHeld ?_
 refine ta 2 hHeld ?_
 refine ta 3 hHeld ?_
 refine ta 4 hHeld ?_
 refine take_call (i:=5) (f:= ?_) (args:= ?_) (v:= ?_) rfl (by kernel_rfl) (by kernel_rfl) (by kernel_rfl) (fun _ _ _ h=>h) (by rfl) hHeld ?_ (fun v hSv=> ?_) ?_
 rotate_left 3
 focus (intro v hSv;go_simp;constructor<;>with_reducible rfl)
 focus (obtain ⟨c0,zs,hAv⟩:=hSv;exact count_calls _ v hAv)
 try simp only [PT]
 refine ta 6 hHeld ?_
 refine ta 7 hHeld ?_
 refine ta 8 hHeld ?_
 refine tno 9 hHeld ?_
 refine tno 10 hHeld ?_
 refine tno 11 hHeld ?_
 refine ta 12 hHeld ?_
 refine rd 13 rfl fun K hK=> ?_
 go_simp
 refine ga (K:=K) fun D hV_D=> ?_
 refine nea2 hV_D hA hB k0 k1 ?_;clear hA hB k0 k1 c_k0 c_k1;intro z_D hA hB k0 c_k0 k1 c_k1
 clear hV_D
 refine ho hK ⟨vv c_k1 v_k1,by omega,hA⟩ fun hHeld=> ?_
 clear hK K
 refine rd 14 rfl fun K hK=> ?_
 go_simp
 refine ho hK hHeld fun hHeld=> ?_
 clear hK K
 refine wd ?_
 go_wp2_with fail
 refine bodyPost_ret (v:= .tuple #[(s.get h).val, .bool false]) (by simp [results,Tryz.results200,go_sem,Nd.val, *]) rfl ⟨rfl,hB⟩
theorem wRow_t1 (h:Int) (h1:s.has h=true) (h2:0<s.cnt h) (h3:(s.get h).tag=3) (w:World) (hA:AP w ap s O):
  Calls Tryz.prog 200 #[ap, .int .i64 h] w fun e w'=>e= .returned (.tuple #[(s.get h).val, .bool true])∧Below w.heap.size w w':=by
 unfold Nd.val
 have d1:decide (0<s.cnt h)=true:=by simpa using h2
 have d2:((s.get h).tag==3)=true:=by simpa using h3
 clear h2 h3
 go_enter Tryz.func200,Tryz.ntmps200
 go_wp2_with fail
 refine cg fun V hV_V=> ?_
 have hB:=Below.refl w.heap.size w
 refine nna0 hV_V hA hB ?_;clear hA hB;intro hn_V z_V hA hB
 obtain ⟨k0,c_k0,o_k0,l_k0V⟩:=nN hn_V hV_V (w.heap.size)
 clear hV_V hn_V
 refine rC (aget_calls _ _ hA) fun w1 hb_w1=> ?_
 refine bea1 hb_w1 hA hB k0 ?_;clear hb_w1 hA hB k0 c_k0;intro z_w1 hA hB k0 c_k0
 unfold Nd.val
 go_wp2_with fail
 refine wg fun V1 hV_V1=> ?_
 refine nna1 hV_V1 hA hB k0 ?_;clear hA hB k0 c_k0;intro hn_V1 z_V1 hA hB k0 c_k0
 obtain ⟨k1,c_k1,o_k1,l_k1V1⟩:=nN hn_V1 hV_V1 (w1.heap.size)
 clear hV_V1 hn_V1
 refine dr (fun v=>Sm v V1 (w1.heap.size)∧(V1.heap.size≤v.heap.size)∧AP v ap s O) ⟨fun _=>rfl,Nat.le_refl _,hA.drew⟩ fun V1d hV_V1d hHeld=> ?_
 have v_k1:=c_k1.1
 refine nea2 hV_V1d hA hB k0 k1 ?_;clear hA hB k0 k1 c_k0 c_k1;intro z_V1d hA hB k0 c_k0 k1 c_k1
 clear hV_V1d
 refine ta 0 hHeld ?_
 refine ta 1 hHeld ?_
 refine ta 2 hHeld ?_
 refine ta 3 hHeld ?_
 refine ta 4 hHeld ?_
 refine take_call (i:=5) (f:= ?_) (args:= ?_) (v:= ?_) rfl (by kernel_rfl) (by kernel_rfl) (by kernel_rfl) (fun _ _ _ h=>h) (by rfl) hHeld ?_ (fun v hSv=> ?_) ?_
 rotate_left 3
 focus (intro v hSv;go_simp;constructor<;>with_reducible rfl)
 focus (obtain ⟨c0,zs,hAv⟩:=hSv;exact count_calls _ v hAv)
 try simp only [PT]
 refine ta 6 hHeld ?_
 refine ta 7 hHeld ?_
 refine ta 8 hHeld ?_
 refine ta 9 hHeld ?_
 refine ta 10 hHeld ?_
 refine ta 11 hHeld ?_
 refine ta 12 hHeld ?_
 refine rd 13 rfl fun K hK=> ?_
 go_simp
 refine ga (K:=K) fun D hV_D=> ?_
 refine nea2 hV_D hA hB k0 k1 ?_;clear hA hB k0 k1 c_k0 c_k1;intro z_D hA hB k0 c_k0 k1 c_k1
 clear hV_D
 refine ho hK ⟨vv c_k1 v_k1,by omega,hA⟩ fun hHeld=> ?_
 clear hK K
 refine rd 14 rfl fun K hK=> ?_
 go_simp
 refine ho hK hHeld fun hHeld=> ?_
 clear hK K
 refine wd ?_
 go_wp2_with fail
 refine bodyPost_ret (v:= .tuple #[(s.get h).val, .bool true]) (by simp [results,Tryz.results200,go_sem,Nd.val, *]) rfl ⟨rfl,hB⟩
theorem wRow_t3 (h:Int) (h1:s.has h=true) (h2:0<s.cnt h) (h3:(s.get h).tag≠3) (w:World) (hA:AP w ap s O):
  Calls Tryz.prog 200 #[ap, .int .i64 h] w fun e w'=>e= .returned (.tuple #[(s.get h).val, .bool false])∧Below w.heap.size w w':=by
 unfold Nd.val
 have d1:decide (0<s.cnt h)=true:=by simpa using h2
 have d2:((s.get h).tag==3)=false:=by simpa using h3
 clear h2 h3
 go_enter Tryz.func200,Tryz.ntmps200
 go_wp2_with fail
 refine cg fun V hV_V=> ?_
 have hB:=Below.refl w.heap.size w
 refine nna0 hV_V hA hB ?_;clear hA hB;intro hn_V z_V hA hB
 obtain ⟨k0,c_k0,o_k0,l_k0V⟩:=nN hn_V hV_V (w.heap.size)
 clear hV_V hn_V
 refine rC (aget_calls _ _ hA) fun w1 hb_w1=> ?_
 refine bea1 hb_w1 hA hB k0 ?_;clear hb_w1 hA hB k0 c_k0;intro z_w1 hA hB k0 c_k0
 unfold Nd.val
 go_wp2_with fail
 refine wg fun V1 hV_V1=> ?_
 refine nna1 hV_V1 hA hB k0 ?_;clear hA hB k0 c_k0;intro hn_V1 z_V1 hA hB k0 c_k0
 obtain ⟨k1,c_k1,o_k1,l_k1V1⟩:=nN hn_V1 hV_V1 (w1.heap.size)
 clear hV_V1 hn_V1
 refine dr (fun v=>Sm v V1 (w1.heap.size)∧(V1.heap.size≤v.heap.size)∧AP v ap s O) ⟨fun _=>rfl,Nat.le_refl _,hA.drew⟩ fun V1d hV_V1d hHeld=> ?_
 have v_k1:=c_k1.1
 refine nea2 hV_V1d hA hB k0 k1 ?_;clear hA hB k0 k1 c_k0 c_k1;intro z_V1d hA hB k0 c_k0 k1 c_k1
 clear hV_V1d
 refine ta 0 hHeld ?_
 refine ta 1 hHeld ?_
 refine ta 2 hHeld ?_
 refine ta 3 hHeld ?_
 refine ta 4 hHeld ?_
 refine take_call (i:=5) (f:= ?_) (args:= ?_) (v:= ?_) rfl (by kernel_rfl) (by kernel_rfl) (by kernel_rfl) (fun _ _ _ h=>h) (by rfl) hHeld ?_ (fun v hSv=> ?_) ?_
 rotate_left 3
 focus (intro v hSv;go_simp;constructor<;>with_reducible rfl)
 focus (obtain ⟨c0,zs,hAv⟩:=hSv;exact count_calls _ v hAv)
 try simp only [PT]
 refine ta 6 hHeld ?_
 refine ta 7 hHeld ?_
 refine ta 8 hHeld ?_
 refine ta 9 hHeld ?_
 refine ta 10 hHeld ?_
 refine ta 11 hHeld ?_
 refine ta 12 hHeld ?_
 refine rd 13 rfl fun K hK=> ?_
 go_simp
 refine ga (K:=K) fun D hV_D=> ?_
 refine nea2 hV_D hA hB k0 k1 ?_;clear hA hB k0 k1 c_k0 c_k1;intro z_D hA hB k0 c_k0 k1 c_k1
 clear hV_D
 refine ho hK ⟨vv c_k1 v_k1,by omega,hA⟩ fun hHeld=> ?_
 clear hK K
 refine rd 14 rfl fun K hK=> ?_
 go_simp
 refine ho hK hHeld fun hHeld=> ?_
 clear hK K
 refine wd ?_
 go_wp2_with fail
 refine bodyPost_ret (v:= .tuple #[(s.get h).val, .bool false]) (by simp [results,Tryz.results200,go_sem,Nd.val, *]) rfl ⟨rfl,hB⟩
theorem wRow_calls (h:Int) (w:World) (hA:AP w ap s O):
  Calls Tryz.prog 200 #[ap, .int .i64 h] w fun e w'=>e= .returned (.tuple #[(s.get h).val, .bool (wIsR s h)])∧Below w.heap.size w w':=by
 cases h1:s.has h with
 | false=>unfold wIsR;rw [h1];exact wRow_no h h1 w hA
 | true=>
  by_cases h2:0<s.cnt h
  ·
   by_cases h3:(s.get h).tag=3
   ·
    have e:wIsR s h=true:=by unfold wIsR;rw [h1];simp [h2,h3]
    rw [e];exact wRow_t1 h h1 h2 h3 w hA
   ·
    have e:wIsR s h=false:=by unfold wIsR;rw [h1];simp [h3]
    rw [e];exact wRow_t3 h h1 h2 h3 w hA
  ·
   have e:wIsR s h=false:=by unfold wIsR;rw [h1];simp [h2]
   rw [e];exact wRow_dead h h1 h2 w hA
end
section
open Go.RowKit
attribute [local go_sem ↓] Go.wp_at_zero Go.wp_at_succ
attribute [local go_sem] lt_s2 ne_s2 ne_t2 lt_s3 ne_s3 ne_t3 lt_s4 ne_s4 ne_t4 lt_s5 ne_s5 ne_t5 lt_s6 ne_s6 ne_t6 lt_s7 ne_s7 ne_t7 lt_s8 ne_s8 ne_t8 lt_s9 ne_s9 ne_t9 lt_s10 ne_s10 ne_t10 lt_s11 ne_s11 ne_t11 lt_s12 ne_s12 ne_t12
theorem first_any (n : Nat) (hn : n ≤ 64) (w : World) :
    Calls Tryz.prog 303 #[.int .i64 (n:Int)] w fun e w'=>e= .returned (.int .u64 ((2 ^ n - 1:Nat):Int))∧w=w':=by
  by_cases h:64≤n
  · obtain rfl:n=64:=by omega
    go_enter Tryz.func303,Tryz.ntmps303
    go_wp2
    go_ret
    exact ⟨rfl,rfl⟩
  · go_enter Tryz.func303,Tryz.ntmps303
    go_wp2
    go_ret
    exact ⟨by rw [wrap_first n (by omega)];rfl,rfl⟩
theorem right_nat (b n : Nat) (hn : n ≤ 64) (hb : b < 2 ^ 64) (w : World) :
    Calls Tryz.prog 300 #[.agg #[.int .u64 (b:Int), .int .i64 (n:Int)]] w fun e w'=>e= .returned (.bool (decide (b<2 ^ n)))∧Below w.heap.size w w':=by
  have ha:=Lib.hid (andNot_first b n hb hn)
  have d1:(0:Int)≤(n:Int):=by omega
  have d2:(n:Int)≤64:=by omega
  go_enter Tryz.func300,Tryz.ntmps300
  go_wp2
  go_quiet ((go_at_call 303;exact quiet_left (first_any _ (by omega) _)))
  go_wp2
  go_ret
  refine ⟨ret_bool ?_,below_drewN ((Below.refl _ _).alloc (Nat.le_refl _) _) _⟩
  rw [ha.out,Bool.eq_iff_iff]
  have hp:0<2 ^ n:=Nat.two_pow_pos n
  have hm:b % 2 ^ n≤b:=Nat.mod_le _ _
  simp only [beq_iff_eq,decide_eq_true_eq]
  constructor
  · intro h;have:b % 2 ^ n=b:=by omega
    rw [←this];exact Nat.mod_lt _ hp
  · intro h;rw [Nat.mod_eq_of_lt h];omega
theorem right_out (b n : Int) (hn : n < 0 ∨ 64 < n) (w : World) :
    Calls Tryz.prog 300 #[.agg #[.int .u64 b, .int .i64 n]] w fun e w'=>e= .returned (.bool false)∧Below w.heap.size w w':=by
  rcases hn with hn|hn
  · have d1:decide ((0:Int)≤n)=false:=by simp;omega
    go_enter Tryz.func300,Tryz.ntmps300
    go_wp2
    go_quiet (fail)
    go_wp2
    go_ret
    exact ⟨rfl,below_drewN ((Below.refl _ _).alloc (Nat.le_refl _) _) _⟩
  · have d1:(0:Int)≤n:=by omega
    have d2:decide (n≤(64:Int))=false:=by simp;omega
    go_enter Tryz.func300,Tryz.ntmps300
    go_wp2
    go_quiet (fail)
    go_wp2
    go_ret
    exact ⟨rfl,below_drewN ((Below.refl _ _).alloc (Nat.le_refl _) _) _⟩
theorem right_yes (l : List Bool) (hl : l.length ≤ 64) (w : World) :
    Calls Tryz.prog 300 #[.agg #[.int .u64 (pack l:Int), .int .i64 (l.length:Int)]] w fun e w'=>e= .returned (.bool true)∧Below w.heap.size w w':=
  (right_nat _ _ hl (pack_lt64 hl) w).mono fun _ _ ⟨he,h⟩=>⟨by rw [he,decide_eq_true (pack_lt l)],h⟩
theorem right_no (b : Nat) (n : Int) (hb : b < 2 ^ 64) (h : ¬ Rt b n) (w : World) :
    Calls Tryz.prog 300 #[.agg #[.int .u64 (b:Int), .int .i64 n]] w fun e w'=>e= .returned (.bool false)∧Below w.heap.size w w':=by
  by_cases hn:n<0∨64<n
  · exact right_out _ _ hn w
  · obtain ⟨m,rfl⟩:=Int.eq_ofNat_of_zero_le (show 0≤n by omega)
    refine (right_nat b m (by omega) hb w).mono fun _ _ ⟨he,h'⟩=>⟨?_,h'⟩
    rw [he,decide_eq_false]
    intro hlt
    exact h ⟨by omega,by omega,by simpa using hlt⟩
theorem ones_pack_calls (l : List Bool) (hl : l.length ≤ 64) (w : World) :
    Calls Tryz.prog 323 #[.int .u64 (pack l:Int)] w fun e w'=>e= .returned (.int .i64 (l.count true:Int))∧w=w':=by
  go_enter Tryz.func323,Tryz.ntmps323
  go_wp2
  go_ret
  refine ⟨?_,rfl⟩
  refine ret_int ?_
  obtain ⟨_,_,_,hc,hh⟩:=ones_pack l hl
  obtain ⟨e1,e2,e3⟩:=ones_steps l hl
  obtain ⟨e4,e5,e6,e7,e8⟩:=ones_end _ _ hc hh
  rw [e1,e2,e3,e4,e5,e6]
  have hw: ∀n:Nat,n<9223372036854775808→wrap64 (n:Int)=n:=fun n h=>by unfold wrap64;omega
  rw [hw _ e7]
  exact e8
theorem rank_list (l : List Bool) (hl : l.length ≤ 64) (i : Int) (w : World) :
    Calls Tryz.prog 288 #[.agg #[.int .u64 (pack l:Int), .int .i64 (l.length:Int)], .int .i64 i] w fun e w'=>e= .returned (.int .i64 ((l.take i.toNat).count true:Int))∧Below w.heap.size w w':=by
  obtain ⟨k,hk,hkl,ht, -, -⟩:=clamp_to l i
  have hm:=Lib.hid (and_first (pack l) k (pack_lt64 hl) (by omega))
  have hp:=Lib.hid (pack_mod l k)
  have ht':=Lib.hid ht
  clear ht
  have hl2:(l.take k).length≤64:=by rw [List.length_take];omega
  go_enter Tryz.func288,Tryz.ntmps288
  go_wp2_with fail
  refine (right_yes l hl _).mono ?_
  rintro e w1 ⟨rfl,hb⟩
  obtain ⟨hc,hf⟩:=bcell hb
  go_wp2_with fail
  go_quiet (first
    | (go_at_call 303;exact quiet_left (first_any _ (by omega) _))
    | (go_at_call 323;rw [hm.out,hp.out];exact quiet_left (ones_pack_calls _ hl2 _)))
  go_wp2
  all_goals (go_ret;exact ⟨ret_int (by rw [ht'.out]),below_drewN (below_step (below_box _ _) hb) _⟩)
theorem rank_no (b : Nat) (n i : Int) (hb : b < 2 ^ 64) (h : ¬ Rt b n) (w : World) :
    Calls Tryz.prog 288 #[.agg #[.int .u64 (b:Int), .int .i64 n], .int .i64 i] w fun e w'=>e= .returned (.int .i64 0)∧Below w.heap.size w w':=by
  go_enter Tryz.func288,Tryz.ntmps288
  go_wp2_with fail
  refine (right_no b n hb h _).mono ?_
  rintro e w1 ⟨rfl,hb⟩
  go_wp2_with fail
  go_ret
  exact ⟨rfl,below_step (below_box _ _) hb⟩
theorem shr_bit (l:List Bool) (hl:l.length≤64) (i:Nat):(Go.bits .and .u64 (((pack l/2 ^ i:Nat)):Int) 1==1)=l.getD i false:=by
  rw [←testBit_pack,show (1:Int)=((1:Nat):Int) by rfl,and_mask _ _ (Nat.lt_of_le_of_lt (Nat.div_le_self _ _) (pack_lt64 hl)) (by omega),Nat.and_one_is_mod]
  rw [Nat.testBit_eq_decide_div_mod_eq,Bool.eq_iff_iff]
  simp only [beq_iff_eq,decide_eq_true_eq]
  omega
theorem get_in (l : List Bool) (hl : l.length ≤ 64) (i : Nat) (hi : i < l.length) (w : World) :
    Calls Tryz.prog 269 #[.agg #[.int .u64 (pack l:Int), .int .i64 (l.length:Int)], .int .i64 (i:Int)] w fun e w'=>e= .returned (.bool (l.getD i false))∧Below w.heap.size w w':=by
  have d1:(0:Int)≤(i:Int):=by omega
  have d2:(i:Int)<(l.length:Int):=by omega
  go_enter Tryz.func269,Tryz.ntmps269
  go_wp2_with fail
  refine (right_yes l hl _).mono ?_
  rintro e w1 ⟨rfl,hb⟩
  obtain ⟨hc,hf⟩:=bcell hb
  go_wp2_with fail
  go_ret
  refine ⟨ret_bool ?_,below_step (below_box _ _) hb⟩
  rw [←shr_bit l hl i]
  norm_cast
theorem getL_nat (l:List Bool) (i:Nat):getL l (i:Int)=l.getD i false:=by simp [getL]
theorem get_out (l : List Bool) (hl : l.length ≤ 64) (i : Int) (hi : i < 0 ∨ l.length ≤ i) (w : World) :
    Calls Tryz.prog 269 #[.agg #[.int .u64 (pack l:Int), .int .i64 (l.length:Int)], .int .i64 i] w fun e w'=>e= .returned (.bool false)∧Below w.heap.size w w':=by
  rcases hi with hi|hi
  · have d1:decide ((0:Int)≤i)=false:=by simp;omega
    go_enter Tryz.func269,Tryz.ntmps269
    go_wp2_with fail
    refine (right_yes l hl _).mono ?_
    rintro e w1 ⟨rfl,hb⟩
    obtain ⟨hc,hf⟩:=bcell hb
    go_wp2_with fail
    go_ret
    exact ⟨rfl,below_step (below_box _ _) hb⟩
  · have d1:(0:Int)≤i:=by omega
    have d2:decide (i<(l.length:Int))=false:=by simp;omega
    go_enter Tryz.func269,Tryz.ntmps269
    go_wp2_with fail
    refine (right_yes l hl _).mono ?_
    rintro e w1 ⟨rfl,hb⟩
    obtain ⟨hc,hf⟩:=bcell hb
    go_wp2_with fail
    go_ret
    exact ⟨rfl,below_step (below_box _ _) hb⟩
theorem getL_out (l:List Bool) (i:Int) (hi:i<0∨l.length≤i):getL l i=false:=by
  unfold getL
  rcases hi with hi|hi
  · simp;omega
  · rw [List.getD_eq_getElem?_getD,List.getElem?_eq_none (by omega)];simp
theorem get_list (l : List Bool) (hl : l.length ≤ 64) (i : Int) (w : World) :
    Calls Tryz.prog 269 #[.agg #[.int .u64 (pack l:Int), .int .i64 (l.length:Int)], .int .i64 i] w fun e w'=>e= .returned (.bool (getL l i))∧Below w.heap.size w w':=by
  by_cases h:i<0∨l.length≤i
  · rw [getL_out l i h];exact get_out l hl i h w
  · obtain ⟨m,rfl⟩:=Int.eq_ofNat_of_zero_le (show 0≤i by omega)
    rw [getL_nat];exact get_in l hl m (by omega) w
theorem get_no (b : Nat) (n i : Int) (hb : b < 2 ^ 64) (h : ¬ Rt b n) (w : World) :
    Calls Tryz.prog 269 #[.agg #[.int .u64 (b:Int), .int .i64 n], .int .i64 i] w fun e w'=>e= .returned (.bool false)∧Below w.heap.size w w':=by
  go_enter Tryz.func269,Tryz.ntmps269
  go_wp2_with fail
  refine (right_no b n hb h _).mono ?_
  rintro e w1 ⟨rfl,hb⟩
  go_wp2_with fail
  go_ret
  exact ⟨rfl,below_step (below_box _ _) hb⟩
theorem split_list (l : List Bool) (hl : l.length ≤ 64) (i : Int) (w : World) :
    Calls Tryz.prog 260 #[.agg #[.int .u64 (pack l:Int), .int .i64 (l.length:Int)], .int .i64 i] w fun e w'=>
      e= .returned (.tuple #[.agg #[.int .u64 (pack (l.take i.toNat):Int), .int .i64 ((l.take i.toNat).length:Int)], .agg #[.int .u64 (pack (l.drop i.toNat):Int), .int .i64 ((l.drop i.toNat).length:Int)]])∧Below w.heap.size w w':=by
  obtain ⟨k,hk,hkl,ht,hd, -⟩:=clamp_to l i
  have hm:=Lib.hid (and_first (pack l) k (pack_lt64 hl) (by omega))
  have hp:=Lib.hid (pack_mod l k)
  have hp2:=Lib.hid (pack_div l k)
  have ht':=Lib.hid ht
  have hd':=Lib.hid hd
  clear ht hd
  have d1:(0:Int)≤(k:Int):=by omega
  have d2:(k:Int)≤(l.length:Int):=by omega
  have HV : Hid (Value.tuple #[.agg #[.int .u64 (Go.bits .and .u64 (pack l : Int) ((2 ^ k - 1 : Nat) : Int)), .int .i64 (k : Int)], .agg #[.int .u64 ((pack l : Int) / 2 ^ k), .int .i64 ((l.length : Int) - (k : Int))]] =
      .tuple #[.agg #[.int .u64 (pack (l.take i.toNat):Int), .int .i64 ((l.take i.toNat).length:Int)], .agg #[.int .u64 (pack (l.drop i.toNat):Int), .int .i64 ((l.drop i.toNat).length:Int)]]):=by
    show _=_
    rw [hm.out,hp.out,ht'.out,show ((pack l:Int)/2 ^ k)=((pack l/2 ^ k:Nat):Int) by norm_cast,hp2.out,hd'.out,←ht'.out,←hd'.out]
    simp;omega
  go_enter Tryz.func260,Tryz.ntmps260
  go_wp2_with fail
  refine (right_yes l hl _).mono ?_
  rintro e w1 ⟨rfl,hb⟩
  obtain ⟨hc,hf⟩:=bcell hb
  go_wp2_with fail
  all_goals
    go_region_held3 (fun w'=>w'.cell? ⟨w.heap.size,0,none⟩=some (.int .u64 (pack l:Int))∧w'.cell? ⟨w.heap.size,1,none⟩=some (.int .i64 (l.length:Int))) (simp [go_sem, *,World.cell?_setCell_far])
      (first|(go_at_call 303;refine (first_any _ (by omega) _).mono ?_;rintro e w' ⟨rfl,rfl⟩))
    go_wp2
    refine bodyPost_ret (v:= .tuple #[.agg #[.int .u64 (Go.bits .and .u64 (pack l:Int) ((2 ^ k - 1:Nat):Int)), .int .i64 (k:Int)], .agg #[.int .u64 ((pack l:Int)/2 ^ k), .int .i64 ((l.length:Int) - (k:Int))]]) (by simp [results,Tryz.results260,go_sem,hc,hf];rw [IntKind.wrap_i64];omega) rfl ⟨congrArg _ HV.out,?_⟩
    exact (((((below_step (((below_box _ _).alloc (by simp) _).alloc (by simp;omega) _) hb).setCell (by simp) _).setCell (by simp) _).setCell (by simp;omega) _).setCell (by simp;omega) _).drew
theorem split_no (b : Nat) (n i : Int) (hb : b < 2 ^ 64) (h : ¬ Rt b n) (w : World) :
    Calls Tryz.prog 260 #[.agg #[.int .u64 (b:Int), .int .i64 n], .int .i64 i] w fun e w'=>
      e= .returned (.tuple #[.agg #[.int .u64 0, .int .i64 0], .agg #[.int .u64 0, .int .i64 0]])∧Below w.heap.size w w':=by
  go_enter Tryz.func260,Tryz.ntmps260
  go_wp2_with fail
  refine (right_no b n hb h _).mono ?_
  rintro e w1 ⟨rfl,hb⟩
  obtain ⟨hc,hf⟩:=bcell hb
  have hsz:=hb.size
  simp at hsz
  go_wp2_with fail
  refine bodyPost_ret (v:= .tuple #[.agg #[.int .u64 0, .int .i64 0], .agg #[.int .u64 0, .int .i64 0]]) (by simp [results,Tryz.results260,go_sem,hc,hf]) rfl ⟨rfl,?_⟩
  exact ((((below_step (((below_box _ _).alloc (by simp) _).alloc (by simp;omega) _) hb).setCell (by simp) _).setCell (by simp) _).setCell (by simp;omega) _).setCell (by simp;omega) _
theorem join_value (a b : List Bool) (h : a.length + b.length ≤ 64) :
    Go.bits .or .u64 (pack a:Int) (IntKind.u64.wrap ((pack b:Int)*2 ^ a.length))=(pack (a++b):Int)∧IntKind.i64.wrap ((a.length:Int)+(b.length:Int))=((a++b).length:Int):=by
  have hlt:=pack_lt64 (l:=a++b) (by simpa using h)
  rw [pack_append] at hlt
  have hz:2 ^ a.length*pack b<2 ^ 64:=Nat.lt_of_le_of_lt (Nat.le_add_left _ _) hlt
  have e:((pack b:Int)*2 ^ a.length)=((2 ^ a.length*pack b:Nat):Int):=by rw [Nat.mul_comm];norm_cast
  refine ⟨?_,by rw [IntKind.wrap_i64];simp;omega⟩
  rw [e,wrap_u64 (by omega) (by omega),or_shift _ _ _ (pack_lt a) hlt,pack_append]
theorem join_yes (a b : List Bool) (h : a.length + b.length ≤ 64) (w : World) :
    Calls Tryz.prog 301 #[.agg #[.int .u64 (pack a:Int), .int .i64 (a.length:Int)], .agg #[.int .u64 (pack b:Int), .int .i64 (b.length:Int)]] w fun e w'=>
      e= .returned (.tuple #[.agg #[.int .u64 (pack (a++b):Int), .int .i64 ((a++b).length:Int)], .bool true])∧Below w.heap.size w w':=by
  have hv:=Lib.hid (join_value a b h)
  have d2:decide ((64:Int)<(a.length:Int)+(b.length:Int))=false:=by simp;omega
  go_enter Tryz.func301,Tryz.ntmps301
  go_wp2_with fail
  refine cg fun V1 hV_V1=> ?_
  have n_b:Below w.heap.size w V1:=nB hV_V1
  obtain ⟨k0,c_k0,l_k0V_V1⟩:=nM hV_V1 (w.heap.size)
  obtain ⟨k1,c_k1,l_k1V_V1⟩:=nM hV_V1 (w.heap.size+1)
  obtain ⟨k2,c_k2,l_k2V_V1⟩:=nM hV_V1 (w.heap.size+1+1)
  clear hV_V1
  refine rC (right_yes a (by omega) _) fun W1 hb_W1=> ?_
  refine beb3 hb_W1 n_b k0 k1 k2 ?_;clear hb_W1 n_b k0 k1 k2 c_k0 c_k1 c_k2;intro z_W1 b1 k0 c_k0 k1 c_k1 k2 c_k2
  have zb_W1:=b1.size
  go_wp2_with fail
  refine cg fun V2 hV_V2=> ?_
  have n_b:Below w.heap.size w V2:=nB hV_V2
  refine nex3 hV_V2 k0 k1 k2 ?_;clear k0 k1 k2 c_k0 c_k1 c_k2;intro z_V2 k0 c_k0 k1 c_k1 k2 c_k2
  clear hV_V2
  refine rC (right_yes b (by omega) _) fun W2 hb_W2=> ?_
  refine beb3 hb_W2 n_b k0 k1 k2 ?_;clear hb_W2 n_b k0 k1 k2 c_k0 c_k1 c_k2;intro z_W2 b2 k0 c_k0 k1 c_k1 k2 c_k2
  go_wp2_with fail
  go_region_held3 (fun v=>(∀o,v.cell? ⟨w.heap.size,o,none⟩=W2.cell? ⟨w.heap.size,o,none⟩)∧(∀o,v.cell? ⟨w.heap.size+1,o,none⟩=W2.cell? ⟨w.heap.size+1,o,none⟩)) (refine ⟨?_,?_⟩<;>intro o<;>simp [go_sem, *,World.cell?_setCell_far])
    (fail)
  go_wp2
  exact bodyPost_ret (v:= .tuple #[.agg #[.int .u64 (Go.bits .or .u64 (pack a:Int) (IntKind.u64.wrap ((pack b:Int)*2 ^ a.length))), .int .i64 (IntKind.i64.wrap ((a.length:Int)+(b.length:Int)))], .bool true]) (by simp [results,Tryz.results301,go_sem, *]) rfl ⟨by rw [hv.out.1,hv.out.2],bel⟩
theorem join_long (a b : List Bool) (ha : a.length ≤ 64) (hb : b.length ≤ 64) (h : 64 < a.length + b.length) (w : World) :
    Calls Tryz.prog 301 #[.agg #[.int .u64 (pack a:Int), .int .i64 (a.length:Int)], .agg #[.int .u64 (pack b:Int), .int .i64 (b.length:Int)]] w fun e w'=>
      e= .returned (.tuple #[.agg #[.int .u64 0, .int .i64 0], .bool false])∧Below w.heap.size w w':=by
  have d2:decide ((64:Int)<(a.length:Int)+(b.length:Int))=true:=by simp;omega
  go_enter Tryz.func301,Tryz.ntmps301
  go_wp2_with fail
  refine cg fun V1 hV_V1=> ?_
  have n_b:Below w.heap.size w V1:=nB hV_V1
  obtain ⟨k0,c_k0,l_k0V_V1⟩:=nM hV_V1 (w.heap.size)
  obtain ⟨k1,c_k1,l_k1V_V1⟩:=nM hV_V1 (w.heap.size+1)
  obtain ⟨k2,c_k2,l_k2V_V1⟩:=nM hV_V1 (w.heap.size+1+1)
  clear hV_V1
  refine rC (right_yes a ha _) fun W1 hb_W1=> ?_
  refine beb3 hb_W1 n_b k0 k1 k2 ?_;clear hb_W1 n_b k0 k1 k2 c_k0 c_k1 c_k2;intro z_W1 b1 k0 c_k0 k1 c_k1 k2 c_k2
  have zb_W1:=b1.size
  go_wp2_with fail
  refine cg fun V2 hV_V2=> ?_
  have n_b:Below w.heap.size w V2:=nB hV_V2
  refine nex3 hV_V2 k0 k1 k2 ?_;clear k0 k1 k2 c_k0 c_k1 c_k2;intro z_V2 k0 c_k0 k1 c_k1 k2 c_k2
  clear hV_V2
  refine rC (right_yes b hb _) fun W2 hb_W2=> ?_
  refine beb3 hb_W2 n_b k0 k1 k2 ?_;clear hb_W2 n_b k0 k1 k2 c_k0 c_k1 c_k2;intro z_W2 b2 k0 c_k0 k1 c_k1 k2 c_k2
  go_wp2
  exact bodyPost_ret (v:= .tuple #[.agg #[.int .u64 0, .int .i64 0], .bool false]) (by simp [results,Tryz.results301,go_sem, *]) rfl ⟨rfl,bel⟩
theorem join_no1 (b : Nat) (n : Int) (hb : b < 2 ^ 64) (h : ¬ Rt b n) (x y : Int) (w : World) :
    Calls Tryz.prog 301 #[.agg #[.int .u64 (b:Int), .int .i64 n], .agg #[.int .u64 x, .int .i64 y]] w fun e w'=>
      e= .returned (.tuple #[.agg #[.int .u64 0, .int .i64 0], .bool false])∧Below w.heap.size w w':=by
  go_enter Tryz.func301,Tryz.ntmps301
  go_wp2_with fail
  refine cg fun V1 hV_V1=> ?_
  have n_b:Below w.heap.size w V1:=nB hV_V1
  obtain ⟨k0,c_k0,l_k0V_V1⟩:=nM hV_V1 (w.heap.size)
  obtain ⟨k1,c_k1,l_k1V_V1⟩:=nM hV_V1 (w.heap.size+1)
  obtain ⟨k2,c_k2,l_k2V_V1⟩:=nM hV_V1 (w.heap.size+1+1)
  clear hV_V1
  refine rC (right_no b n hb h _) fun W1 hb_W1=> ?_
  refine beb3 hb_W1 n_b k0 k1 k2 ?_;clear hb_W1 n_b k0 k1 k2 c_k0 c_k1 c_k2;intro z_W1 b1 k0 c_k0 k1 c_k1 k2 c_k2
  have zb_W1:=b1.size
  go_wp2
  exact bodyPost_ret (v:= .tuple #[.agg #[.int .u64 0, .int .i64 0], .bool false]) (by simp [results,Tryz.results301,go_sem, *]) rfl ⟨rfl,bel⟩
theorem join_no2 (a : List Bool) (ha : a.length ≤ 64) (b : Nat) (n : Int) (hb : b < 2 ^ 64) (h : ¬ Rt b n) (w : World) :
    Calls Tryz.prog 301 #[.agg #[.int .u64 (pack a:Int), .int .i64 (a.length:Int)], .agg #[.int .u64 (b:Int), .int .i64 n]] w fun e w'=>
      e= .returned (.tuple #[.agg #[.int .u64 0, .int .i64 0], .bool false])∧Below w.heap.size w w':=by
  go_enter Tryz.func301,Tryz.ntmps301
  go_wp2_with fail
  refine cg fun V1 hV_V1=> ?_
  have n_b:Below w.heap.size w V1:=nB hV_V1
  obtain ⟨k0,c_k0,l_k0V_V1⟩:=nM hV_V1 (w.heap.size)
  obtain ⟨k1,c_k1,l_k1V_V1⟩:=nM hV_V1 (w.heap.size+1)
  obtain ⟨k2,c_k2,l_k2V_V1⟩:=nM hV_V1 (w.heap.size+1+1)
  clear hV_V1
  refine rC (right_yes a ha _) fun W1 hb_W1=> ?_
  refine beb3 hb_W1 n_b k0 k1 k2 ?_;clear hb_W1 n_b k0 k1 k2 c_k0 c_k1 c_k2;intro z_W1 b1 k0 c_k0 k1 c_k1 k2 c_k2
  have zb_W1:=b1.size
  go_wp2_with fail
  refine cg fun V2 hV_V2=> ?_
  have n_b:Below w.heap.size w V2:=nB hV_V2
  refine nex3 hV_V2 k0 k1 k2 ?_;clear k0 k1 k2 c_k0 c_k1 c_k2;intro z_V2 k0 c_k0 k1 c_k1 k2 c_k2
  clear hV_V2
  refine rC (right_no b n hb h _) fun W2 hb_W2=> ?_
  refine beb3 hb_W2 n_b k0 k1 k2 ?_;clear hb_W2 n_b k0 k1 k2 c_k0 c_k1 c_k2;intro z_W2 b2 k0 c_k0 k1 c_k1 k2 c_k2
  go_wp2
  exact bodyPost_ret (v:= .tuple #[.agg #[.int .u64 0, .int .i64 0], .bool false]) (by simp [results,Tryz.results301,go_sem, *]) rfl ⟨rfl,bel⟩
theorem split_at (l : List Bool) (hl : l.length ≤ 64) (x y : List Bool) (i : Int) (hx : x = l.take i.toNat) (hy : y = l.drop i.toNat) (A n : Int) (hA : A = pack l) (hn : n = l.length) (w : World) :
    Calls Tryz.prog 260 #[.agg #[.int .u64 A, .int .i64 n], .int .i64 i] w fun e w'=>
      e= .returned (.tuple #[.agg #[.int .u64 (pack x:Int), .int .i64 (x.length:Int)], .agg #[.int .u64 (pack y:Int), .int .i64 (y.length:Int)]])∧Below w.heap.size w w':=by
  subst hx hy hA hn;exact split_list l hl i w
theorem join_at (a b c : List Bool) (h : a.length + b.length ≤ 64) (A n B m : Int) (hA : A = pack a) (hn : n = a.length) (hB : B = pack b) (hm : m = b.length) (hc : c = a ++ b) (w : World) :
    Calls Tryz.prog 301 #[.agg #[.int .u64 A, .int .i64 n], .agg #[.int .u64 B, .int .i64 m]] w fun e w'=>
      e= .returned (.tuple #[.agg #[.int .u64 (pack c:Int), .int .i64 (c.length:Int)], .bool true])∧Below w.heap.size w w':=by
  subst hA hn hB hm hc;exact join_yes a b h w
theorem pack_snoc (l:List Bool) (one:Bool):pack (l++[one])=pack l+2 ^ l.length*one.toNat:=by rw [pack_append];simp [pack]
theorem or_bit (l:List Bool) (h:l.length<64):Go.bits .or .u64 (pack l:Int) (IntKind.u64.wrap (2 ^ l.length))=(pack (l++[true]):Int):=by
  have h1:=pack_lt64 (l:=l++[true]) (by simp;omega)
  rw [pack_snoc] at h1⊢
  have e:(2:Int) ^ l.length=((2 ^ l.length*1:Nat):Int):=by simp
  simp only [Bool.toNat_true] at h1⊢
  rw [e,wrap_u64 (by omega) (by omega),or_shift _ _ _ (pack_lt l) h1]
theorem insL_length (l:List Bool) (i:Nat) (one:Bool):(insL l i one).length=l.length+1:=by simp [insL];omega
theorem insert_yes (l : List Bool) (i : Nat) (one : Bool) (hi : i ≤ l.length) (hl : l.length < 64) (w : World) :
    Calls Tryz.prog 257 #[.agg #[.int .u64 (pack l:Int), .int .i64 (l.length:Int)], .int .i64 (i:Int), .bool one] w fun e w'=>
      e= .returned (.tuple #[.agg #[.int .u64 (pack (insL l i one):Int), .int .i64 ((insL l i one).length:Int)], .bool true])∧Below w.heap.size w w':=by
  have d1:decide ((i:Int)<0)=false:=by simp
  have d2:decide ((l.length:Int)<(i:Int))=false:=by simp;omega
  have d3:((l.length:Int)==64)=false:=by simp;omega
  obtain ⟨x,hx⟩: ∃x,x=l.take i:=⟨_,rfl⟩
  obtain ⟨y,hy⟩: ∃y,y=l.drop i:=⟨_,rfl⟩
  obtain ⟨c,hc⟩: ∃c,c=insL l i one:=⟨_,rfl⟩
  have hxl:x.length=i:=by rw [hx];simp;omega
  have hsum:x.length+y.length=l.length:=by rw [hx,hy];simp;omega
  have HX:=Lib.hid hx;have HY:=Lib.hid hy
  have HC:Hid (c=(x++[one])++y):=by show _=_;rw [hc,hx,hy];simp [insL]
  rw [←hc]
  have hs1:x.length≤63:=by omega
  have hs2:x.length+1+y.length≤64:=by omega
  have hu:=Lib.hid (or_bit x (by omega))
  have hxi:=Lib.hid hxl
  have e0:=Lib.hid (pack_snoc x false)
  clear hx hy hc hsum hxl
  cases one
  · go_enter Tryz.func257,Tryz.ntmps257
    go_wp2_with fail
    refine cg fun V1 hV_V1=> ?_
    have n_b:Below w.heap.size w V1:=nB hV_V1
    obtain ⟨k0,c_k0,l_k0V_V1⟩:=nM hV_V1 (w.heap.size)
    obtain ⟨k1,c_k1,l_k1V_V1⟩:=nM hV_V1 (w.heap.size+1)
    clear hV_V1
    refine rC (right_yes l (by omega) _) fun W1 hb_W1=> ?_
    refine beb2 hb_W1 n_b k0 k1 ?_;clear hb_W1 n_b k0 k1 c_k0 c_k1;intro z_W1 b1 k0 c_k0 k1 c_k1
    have zb_W1:=b1.size
    go_wp2_with fail
    refine cg fun V2 hV_V2=> ?_
    have n_b:Below w.heap.size w V2:=nB hV_V2
    refine nex2 hV_V2 k0 k1 ?_;clear k0 k1 c_k0 c_k1;intro z_V2 k0 c_k0 k1 c_k1
    clear hV_V2
    refine rC (split_at l (by omega) x y _ (by rw [HX.out];simp) (by rw [HY.out];simp) _ _ rfl rfl _) fun W2 hb_W2=> ?_
    refine beb2 hb_W2 n_b k0 k1 ?_;clear hb_W2 n_b k0 k1 c_k0 c_k1;intro z_W2 b2 k0 c_k0 k1 c_k1
    go_wp2_with fail
    refine cg fun V3 hV_V3=> ?_
    have n_b:Below w.heap.size w V3:=nB hV_V3
    refine nex2 hV_V3 k0 k1 ?_;clear k0 k1 c_k0 c_k1;intro z_V3 k0 c_k0 k1 c_k1
    clear hV_V3
    refine rC (join_at (x++[false]) y c (by simp;omega) _ _ _ _ (by rw [e0.out];simp) (by simp) rfl rfl HC.out _) fun W3 hb_W3=> ?_
    refine beb2 hb_W3 n_b k0 k1 ?_;clear hb_W3 n_b k0 k1 c_k0 c_k1;intro z_W3 b3 k0 c_k0 k1 c_k1
    go_wp2
    exact bodyPost_ret (v:= .tuple #[.agg #[.int .u64 (pack c:Int), .int .i64 (c.length:Int)], .bool true]) (by simp [results,Tryz.results257,go_sem, *]) rfl ⟨rfl,bel⟩
  · go_enter Tryz.func257,Tryz.ntmps257
    go_wp2_with fail
    refine cg fun V1 hV_V1=> ?_
    have n_b:Below w.heap.size w V1:=nB hV_V1
    obtain ⟨k0,c_k0,l_k0V_V1⟩:=nM hV_V1 (w.heap.size)
    obtain ⟨k1,c_k1,l_k1V_V1⟩:=nM hV_V1 (w.heap.size+1)
    clear hV_V1
    refine rC (right_yes l (by omega) _) fun W1 hb_W1=> ?_
    refine beb2 hb_W1 n_b k0 k1 ?_;clear hb_W1 n_b k0 k1 c_k0 c_k1;intro z_W1 b1 k0 c_k0 k1 c_k1
    have zb_W1:=b1.size
    go_wp2_with fail
    refine cg fun V2 hV_V2=> ?_
    have n_b:Below w.heap.size w V2:=nB hV_V2
    refine nex2 hV_V2 k0 k1 ?_;clear k0 k1 c_k0 c_k1;intro z_V2 k0 c_k0 k1 c_k1
    clear hV_V2
    refine rC (split_at l (by omega) x y _ (by rw [HX.out];simp) (by rw [HY.out];simp) _ _ rfl rfl _) fun W2 hb_W2=> ?_
    refine beb2 hb_W2 n_b k0 k1 ?_;clear hb_W2 n_b k0 k1 c_k0 c_k1;intro z_W2 b2 k0 c_k0 k1 c_k1
    go_wp2_with fail
    go_region
    go_wp2_with fail
    refine cg fun V3 hV_V3=> ?_
    have n_b:Below w.heap.size w V3:=nB hV_V3
    refine nex2 hV_V3 k0 k1 ?_;clear k0 k1 c_k0 c_k1;intro z_V3 k0 c_k0 k1 c_k1
    clear hV_V3
    refine rC (join_at (x++[true]) y c (by simp;omega) _ _ _ _ (by rw [←hu.out,hxi.out]) (by simp) rfl rfl HC.out _) fun W3 hb_W3=> ?_
    refine beb2 hb_W3 n_b k0 k1 ?_;clear hb_W3 n_b k0 k1 c_k0 c_k1;intro z_W3 b3 k0 c_k0 k1 c_k1
    go_wp2
    exact bodyPost_ret (v:= .tuple #[.agg #[.int .u64 (pack c:Int), .int .i64 (c.length:Int)], .bool true]) (by simp [results,Tryz.results257,go_sem, *]) rfl ⟨rfl,bel⟩
theorem insert_out (l : List Bool) (hl : l.length ≤ 64) (i : Int) (one : Bool) (hi : i < 0 ∨ l.length < i ∨ l.length = 64) (w : World) :
    Calls Tryz.prog 257 #[.agg #[.int .u64 (pack l:Int), .int .i64 (l.length:Int)], .int .i64 i, .bool one] w fun e w'=>
      e= .returned (.tuple #[.agg #[.int .u64 0, .int .i64 0], .bool false])∧Below w.heap.size w w':=by
  by_cases h1:i<0
  · have d1:decide (i<0)=true:=by simpa using h1
    go_enter Tryz.func257,Tryz.ntmps257
    go_wp2_with fail
    refine cg fun V1 hV_V1=> ?_
    have n_b:Below w.heap.size w V1:=nB hV_V1
    obtain ⟨k0,c_k0,l_k0V_V1⟩:=nM hV_V1 (w.heap.size)
    obtain ⟨k1,c_k1,l_k1V_V1⟩:=nM hV_V1 (w.heap.size+1)
    clear hV_V1
    refine rC (right_yes l hl _) fun W1 hb_W1=> ?_
    refine beb2 hb_W1 n_b k0 k1 ?_;clear hb_W1 n_b k0 k1 c_k0 c_k1;intro z_W1 b1 k0 c_k0 k1 c_k1
    have zb_W1:=b1.size
    go_wp2
    exact bodyPost_ret (v:= .tuple #[.agg #[.int .u64 0, .int .i64 0], .bool false]) (by simp [results,Tryz.results257,go_sem, *]) rfl ⟨rfl,bel⟩
  · have d1:decide (i<0)=false:=by simp;omega
    by_cases h2:l.length<i
    · have d2:decide ((l.length:Int)<i)=true:=by simpa using h2
      go_enter Tryz.func257,Tryz.ntmps257
      go_wp2_with fail
      refine cg fun V1 hV_V1=> ?_
      have n_b:Below w.heap.size w V1:=nB hV_V1
      obtain ⟨k0,c_k0,l_k0V_V1⟩:=nM hV_V1 (w.heap.size)
      obtain ⟨k1,c_k1,l_k1V_V1⟩:=nM hV_V1 (w.heap.size+1)
      clear hV_V1
      refine rC (right_yes l hl _) fun W1 hb_W1=> ?_
      refine beb2 hb_W1 n_b k0 k1 ?_;clear hb_W1 n_b k0 k1 c_k0 c_k1;intro z_W1 b1 k0 c_k0 k1 c_k1
      have zb_W1:=b1.size
      go_wp2
      exact bodyPost_ret (v:= .tuple #[.agg #[.int .u64 0, .int .i64 0], .bool false]) (by simp [results,Tryz.results257,go_sem, *]) rfl ⟨rfl,bel⟩
    · have d2:decide ((l.length:Int)<i)=false:=by simp;omega
      have d3:((l.length:Int)==64)=true:=by simp;omega
      clear hi
      go_enter Tryz.func257,Tryz.ntmps257
      go_wp2_with fail
      refine cg fun V1 hV_V1=> ?_
      have n_b:Below w.heap.size w V1:=nB hV_V1
      obtain ⟨k0,c_k0,l_k0V_V1⟩:=nM hV_V1 (w.heap.size)
      obtain ⟨k1,c_k1,l_k1V_V1⟩:=nM hV_V1 (w.heap.size+1)
      clear hV_V1
      refine rC (right_yes l hl _) fun W1 hb_W1=> ?_
      refine beb2 hb_W1 n_b k0 k1 ?_;clear hb_W1 n_b k0 k1 c_k0 c_k1;intro z_W1 b1 k0 c_k0 k1 c_k1
      have zb_W1:=b1.size
      go_wp2
      exact bodyPost_ret (v:= .tuple #[.agg #[.int .u64 0, .int .i64 0], .bool false]) (by simp [results,Tryz.results257,go_sem, *]) rfl ⟨rfl,bel⟩
theorem insert_no (b : Nat) (n : Int) (hb : b < 2 ^ 64) (h : ¬ Rt b n) (i : Int) (one : Bool) (w : World) :
    Calls Tryz.prog 257 #[.agg #[.int .u64 (b:Int), .int .i64 n], .int .i64 i, .bool one] w fun e w'=>
      e= .returned (.tuple #[.agg #[.int .u64 0, .int .i64 0], .bool false])∧Below w.heap.size w w':=by
  go_enter Tryz.func257,Tryz.ntmps257
  go_wp2_with fail
  refine cg fun V1 hV_V1=> ?_
  have n_b:Below w.heap.size w V1:=nB hV_V1
  obtain ⟨k0,c_k0,l_k0V_V1⟩:=nM hV_V1 (w.heap.size)
  obtain ⟨k1,c_k1,l_k1V_V1⟩:=nM hV_V1 (w.heap.size+1)
  clear hV_V1
  refine rC (right_no b n hb h _) fun W1 hb_W1=> ?_
  refine beb2 hb_W1 n_b k0 k1 ?_;clear hb_W1 n_b k0 k1 c_k0 c_k1;intro z_W1 b1 k0 c_k0 k1 c_k1
  have zb_W1:=b1.size
  go_wp2
  exact bodyPost_ret (v:= .tuple #[.agg #[.int .u64 0, .int .i64 0], .bool false]) (by simp [results,Tryz.results257,go_sem, *]) rfl ⟨rfl,bel⟩
theorem delete_yes (l : List Bool) (i : Nat) (hi : i < l.length) (hl : l.length ≤ 64) (w : World) :
    Calls Tryz.prog 324 #[.agg #[.int .u64 (pack l:Int), .int .i64 (l.length:Int)], .int .i64 (i:Int)] w fun e w'=>
      e= .returned (.tuple #[.agg #[.int .u64 (pack (l.eraseIdx i):Int), .int .i64 ((l.eraseIdx i).length:Int)], .bool true])∧Below w.heap.size w w':=by
  have d1:decide ((i:Int)<0)=false:=by simp
  have d2:decide ((l.length:Int)≤(i:Int))=false:=by simp;omega
  obtain ⟨x,hx⟩: ∃x,x=l.take i:=⟨_,rfl⟩
  obtain ⟨y,hy⟩: ∃y,y=l.drop i:=⟨_,rfl⟩
  obtain ⟨y0,hy0⟩: ∃y0,y0=y.take 1:=⟨_,rfl⟩
  obtain ⟨y1,hy1⟩: ∃y1,y1=y.drop 1:=⟨_,rfl⟩
  obtain ⟨c,hc⟩: ∃c,c=l.eraseIdx i:=⟨_,rfl⟩
  have hyl:y.length≤64:=by rw [hy];simp;omega
  have hs:x.length+y1.length≤64:=by rw [hx,hy1,hy];simp;omega
  have HX:=Lib.hid hx;have HY:=Lib.hid hy;have HY0:=Lib.hid hy0;have HY1:=Lib.hid hy1
  have HC:Hid (c=x++y1):=by show _=_;rw [hc,hx,hy1,hy,List.drop_drop,List.eraseIdx_eq_take_drop_succ]
  rw [←hc]
  clear hx hy hy0 hy1 hc
  go_enter Tryz.func324,Tryz.ntmps324
  go_wp2_with fail
  refine cg fun V1 hV_V1=> ?_
  have n_b:Below w.heap.size w V1:=nB hV_V1
  obtain ⟨k0,c_k0,l_k0V_V1⟩:=nM hV_V1 (w.heap.size)
  obtain ⟨k1,c_k1,l_k1V_V1⟩:=nM hV_V1 (w.heap.size+1)
  clear hV_V1
  refine rC (right_yes l hl _) fun W1 hb_W1=> ?_
  refine beb2 hb_W1 n_b k0 k1 ?_;clear hb_W1 n_b k0 k1 c_k0 c_k1;intro z_W1 b1 k0 c_k0 k1 c_k1
  have zb_W1:=b1.size
  go_wp2_with fail
  refine cg fun V2 hV_V2=> ?_
  have n_b:Below w.heap.size w V2:=nB hV_V2
  refine nex2 hV_V2 k0 k1 ?_;clear k0 k1 c_k0 c_k1;intro z_V2 k0 c_k0 k1 c_k1
  clear hV_V2
  refine rC (split_at l hl x y _ (by rw [HX.out];simp) (by rw [HY.out];simp) _ _ rfl rfl _) fun W2 hb_W2=> ?_
  refine beb2 hb_W2 n_b k0 k1 ?_;clear hb_W2 n_b k0 k1 c_k0 c_k1;intro z_W2 b2 k0 c_k0 k1 c_k1
  go_wp2_with fail
  refine cg fun V3 hV_V3=> ?_
  have n_b:Below w.heap.size w V3:=nB hV_V3
  refine nex2 hV_V3 k0 k1 ?_;clear k0 k1 c_k0 c_k1;intro z_V3 k0 c_k0 k1 c_k1
  obtain ⟨k2,c_k2,l_k2V_V3⟩:=nM hV_V3 (W2.heap.size)
  obtain ⟨k3,c_k3,l_k3V_V3⟩:=nM hV_V3 (W2.heap.size+1)
  clear hV_V3
  refine rC (split_at y hyl y0 y1 1 HY0.out HY1.out _ _ rfl rfl _) fun W3 hb_W3=> ?_
  refine beb4 hb_W3 n_b k0 k1 k2 k3 ?_;clear hb_W3 n_b k0 k1 k2 k3 c_k0 c_k1 c_k2 c_k3;intro z_W3 b3 k0 c_k0 k1 c_k1 k2 c_k2 k3 c_k3
  go_wp2_with fail
  refine cg fun V4 hV_V4=> ?_
  have n_b:Below w.heap.size w V4:=nB hV_V4
  refine nex2 hV_V4 k0 k1 ?_;clear k0 k1 c_k0 c_k1 c_k2 c_k3 k2 k3;intro z_V4 k0 c_k0 k1 c_k1
  clear hV_V4
  refine rC (join_at x y1 c hs _ _ _ _ rfl rfl rfl rfl HC.out _) fun W4 hb_W4=> ?_
  refine beb2 hb_W4 n_b k0 k1 ?_;clear hb_W4 n_b k0 k1 c_k0 c_k1;intro z_W4 b4 k0 c_k0 k1 c_k1
  go_wp2
  exact bodyPost_ret (v:= .tuple #[.agg #[.int .u64 (pack c:Int), .int .i64 (c.length:Int)], .bool true]) (by simp [results,Tryz.results324,go_sem, *]) rfl ⟨rfl,bel⟩
theorem delete_out (l : List Bool) (hl : l.length ≤ 64) (i : Int) (hi : i < 0 ∨ l.length ≤ i) (w : World) :
    Calls Tryz.prog 324 #[.agg #[.int .u64 (pack l:Int), .int .i64 (l.length:Int)], .int .i64 i] w fun e w'=>
      e= .returned (.tuple #[.agg #[.int .u64 0, .int .i64 0], .bool false])∧Below w.heap.size w w':=by
  by_cases h1:i<0
  · have d1:decide (i<0)=true:=by simpa using h1
    go_enter Tryz.func324,Tryz.ntmps324
    go_wp2_with fail
    refine cg fun V1 hV_V1=> ?_
    have n_b:Below w.heap.size w V1:=nB hV_V1
    obtain ⟨k0,c_k0,l_k0V_V1⟩:=nM hV_V1 (w.heap.size)
    obtain ⟨k1,c_k1,l_k1V_V1⟩:=nM hV_V1 (w.heap.size+1)
    clear hV_V1
    refine rC (right_yes l hl _) fun W1 hb_W1=> ?_
    refine beb2 hb_W1 n_b k0 k1 ?_;clear hb_W1 n_b k0 k1 c_k0 c_k1;intro z_W1 b1 k0 c_k0 k1 c_k1
    have zb_W1:=b1.size
    go_wp2
    exact bodyPost_ret (v:= .tuple #[.agg #[.int .u64 0, .int .i64 0], .bool false]) (by simp [results,Tryz.results324,go_sem, *]) rfl ⟨rfl,bel⟩
  · have d1:decide (i<0)=false:=by simp;omega
    have d2:decide ((l.length:Int)≤i)=true:=by simp;omega
    go_enter Tryz.func324,Tryz.ntmps324
    go_wp2_with fail
    refine cg fun V1 hV_V1=> ?_
    have n_b:Below w.heap.size w V1:=nB hV_V1
    obtain ⟨k0,c_k0,l_k0V_V1⟩:=nM hV_V1 (w.heap.size)
    obtain ⟨k1,c_k1,l_k1V_V1⟩:=nM hV_V1 (w.heap.size+1)
    clear hV_V1
    refine rC (right_yes l hl _) fun W1 hb_W1=> ?_
    refine beb2 hb_W1 n_b k0 k1 ?_;clear hb_W1 n_b k0 k1 c_k0 c_k1;intro z_W1 b1 k0 c_k0 k1 c_k1
    have zb_W1:=b1.size
    go_wp2
    exact bodyPost_ret (v:= .tuple #[.agg #[.int .u64 0, .int .i64 0], .bool false]) (by simp [results,Tryz.results324,go_sem, *]) rfl ⟨rfl,bel⟩
theorem delete_no (b : Nat) (n : Int) (hb : b < 2 ^ 64) (h : ¬ Rt b n) (i : Int) (w : World) :
    Calls Tryz.prog 324 #[.agg #[.int .u64 (b:Int), .int .i64 n], .int .i64 i] w fun e w'=>
      e= .returned (.tuple #[.agg #[.int .u64 0, .int .i64 0], .bool false])∧Below w.heap.size w w':=by
  go_enter Tryz.func324,Tryz.ntmps324
  go_wp2_with fail
  refine cg fun V1 hV_V1=> ?_
  have n_b:Below w.heap.size w V1:=nB hV_V1
  obtain ⟨k0,c_k0,l_k0V_V1⟩:=nM hV_V1 (w.heap.size)
  obtain ⟨k1,c_k1,l_k1V_V1⟩:=nM hV_V1 (w.heap.size+1)
  clear hV_V1
  refine rC (right_no b n hb h _) fun W1 hb_W1=> ?_
  refine beb2 hb_W1 n_b k0 k1 ?_;clear hb_W1 n_b k0 k1 c_k0 c_k1;intro z_W1 b1 k0 c_k0 k1 c_k1
  have zb_W1:=b1.size
  go_wp2
  exact bodyPost_ret (v:= .tuple #[.agg #[.int .u64 0, .int .i64 0], .bool false]) (by simp [results,Tryz.results324,go_sem, *]) rfl ⟨rfl,bel⟩
theorem insert_at (l c : List Bool) (i : Int) (one : Bool) (hi : 0 ≤ i) (hi2 : i ≤ l.length) (hl : l.length < 64) (A n : Int) (hA : A = pack l) (hn : n = l.length) (hc : c = insL l i.toNat one) (w : World) :
    Calls Tryz.prog 257 #[.agg #[.int .u64 A, .int .i64 n], .int .i64 i, .bool one] w fun e w'=>
      e= .returned (.tuple #[.agg #[.int .u64 (pack c:Int), .int .i64 (c.length:Int)], .bool true])∧Below w.heap.size w w':=by
  obtain ⟨i,rfl⟩:=Int.eq_ofNat_of_zero_le hi
  subst hA hn hc;exact insert_yes l i one (by omega) hl w
theorem delete_at (l c : List Bool) (i : Int) (hi : 0 ≤ i) (hi2 : i < l.length) (hl : l.length ≤ 64) (A n : Int) (hA : A = pack l) (hn : n = l.length) (hc : c = l.eraseIdx i.toNat) (w : World) :
    Calls Tryz.prog 324 #[.agg #[.int .u64 A, .int .i64 n], .int .i64 i] w fun e w'=>
      e= .returned (.tuple #[.agg #[.int .u64 (pack c:Int), .int .i64 (c.length:Int)], .bool true])∧Below w.heap.size w w':=by
  obtain ⟨i,rfl⟩:=Int.eq_ofNat_of_zero_le hi
  subst hA hn hc;exact delete_yes l i (by omega) hl w
end
section
open Go.RowKit
def Lf (b:Nat) (n:Int) (ok:Bool) (l:List Bool):Prop:=(ok=true∧l.length≤64∧b=pack l∧n=l.length)∨(ok=false∧l=[]∧b<2 ^ 64∧ ¬Rt b n)
theorem Lf.len {b:Nat} {n:Int} {ok:Bool} {l:List Bool} (h:Lf b n ok l):l.length≤64:=by
  rcases h with ⟨_,h,_⟩|⟨_,rfl,_⟩
  · exact h
  · simp
theorem Lf.of (b n:Int) (hb:(Lit.int .u64 b).wf=true): ∃(B:Nat) (ok:Bool) (l:List Bool),b=B∧Lf B n ok l:=by
  obtain ⟨h1,h2⟩:=wf_u64 hb
  obtain ⟨b,rfl⟩:=Int.eq_ofNat_of_zero_le h1
  by_cases h:Rt b n
  · obtain ⟨n,rfl⟩:=Int.eq_ofNat_of_zero_le h.1
    exact ⟨b,true,unpack b n,rfl, .inl ⟨rfl,by rw [unpack_length];have:=h.2.1;omega,by rw [pack_unpack];simpa using h.2.2,by rw [unpack_length]⟩⟩
  · exact ⟨b,false,[],rfl, .inr ⟨rfl,rfl,by omega,h⟩⟩
section
variable {b : Nat} {n : Int} {ok : Bool} {l : List Bool}
theorem get_lf (h:Lf b n ok l) (i:Int) (r:Bool) (hr:r=getL l i) (w:World):Calls Tryz.prog 269 #[.agg #[.int .u64 (b:Int), .int .i64 n], .int .i64 i] w fun e w'=>e= .returned (.bool r)∧Below w.heap.size w w':=by
  subst hr
  rcases h with ⟨rfl,h,rfl,rfl⟩|⟨rfl,rfl,hb,h⟩
  · exact get_list l h i w
  · rw [getL_out [] i (by simp;omega)];exact get_no b n i hb h w
theorem rank_lf (h:Lf b n ok l) (i r:Int) (hr:r=(l.take i.toNat).count true) (w:World):Calls Tryz.prog 288 #[.agg #[.int .u64 (b:Int), .int .i64 n], .int .i64 i] w fun e w'=>e= .returned (.int .i64 r)∧Below w.heap.size w w':=by
  subst hr
  rcases h with ⟨rfl,h,rfl,rfl⟩|⟨rfl,rfl,hb,h⟩
  · exact rank_list l h i w
  · have e:((([]:List Bool).take i.toNat).count true:Int)=0:=by simp
    rw [e];exact rank_no b n i hb h w
theorem split_lf (h : Lf b n ok l) (i : Int) (x y : List Bool) (hx : x = l.take i.toNat) (hy : y = l.drop i.toNat) (w : World) : Calls Tryz.prog 260 #[.agg #[.int .u64 (b : Int), .int .i64 n], .int .i64 i] w fun e w' =>
    e= .returned (.tuple #[.agg #[.int .u64 (pack x:Int), .int .i64 (x.length:Int)], .agg #[.int .u64 (pack y:Int), .int .i64 (y.length:Int)]])∧Below w.heap.size w w':=by
  rcases h with ⟨rfl,h,rfl,rfl⟩|⟨rfl,rfl,hb,h⟩
  · exact split_at l h x y i hx hy _ _ rfl rfl w
  · obtain rfl:x=[]:=by simpa using hx
    obtain rfl:y=[]:=by simpa using hy
    exact split_no b n i hb h w
theorem insert_lf (h : Lf b n ok l) (i : Int) (one may : Bool) (c : List Bool) (hm : may = (ok && (decide (0 ≤ i) && (decide (i ≤ l.length) && decide ((l.length : Int) < 64))))) (hc : c = if may then insL l i.toNat one else []) (w : World) : Calls Tryz.prog 257 #[.agg #[.int .u64 (b : Int), .int .i64 n], .int .i64 i, .bool one] w fun e w' =>
    e= .returned (.tuple #[.agg #[.int .u64 (pack c:Int), .int .i64 (c.length:Int)], .bool may])∧Below w.heap.size w w':=by
  rcases h with ⟨rfl,h,rfl,rfl⟩|⟨rfl,rfl,hb,h⟩
  · by_cases g:0≤i∧i≤l.length∧(l.length:Int)<64
    · obtain rfl:may=true:=by simp [hm,g]
      simp at hc
      exact insert_at l c i one g.1 g.2.1 (by omega) _ _ rfl rfl hc w
    · obtain rfl:may=false:=by rw [hm];simp;omega
      obtain rfl:c=[]:=by simpa using hc
      exact insert_out l h i one (by omega) w
  · obtain rfl:may=false:=by simpa using hm
    obtain rfl:c=[]:=by simpa using hc
    exact insert_no b n hb h i one w
theorem delete_lf (h : Lf b n ok l) (i : Int) (may : Bool) (c : List Bool) (hm : may = (ok && (decide (0 ≤ i) && decide (i < l.length)))) (hc : c = if may then l.eraseIdx i.toNat else []) (w : World) : Calls Tryz.prog 324 #[.agg #[.int .u64 (b : Int), .int .i64 n], .int .i64 i] w fun e w' =>
    e= .returned (.tuple #[.agg #[.int .u64 (pack c:Int), .int .i64 (c.length:Int)], .bool may])∧Below w.heap.size w w':=by
  rcases h with ⟨rfl,h,rfl,rfl⟩|⟨rfl,rfl,hb,h⟩
  · by_cases g:0≤i∧i<l.length
    · obtain rfl:may=true:=by simp [hm,g]
      simp at hc
      exact delete_at l c i g.1 g.2 h _ _ rfl rfl hc w
    · obtain rfl:may=false:=by rw [hm];simp;omega
      obtain rfl:c=[]:=by simpa using hc
      exact delete_out l h i (by omega) w
  · obtain rfl:may=false:=by simpa using hm
    obtain rfl:c=[]:=by simpa using hc
    exact delete_no b n hb h i w
theorem join_lf {b' : Nat} {n' : Int} {ok' : Bool} {l' : List Bool} (h : Lf b n ok l) (h' : Lf b' n' ok' l') (may : Bool) (c : List Bool) (hm : may = (ok && (ok' && decide ((l.length : Int) + (l'.length : Int) ≤ 64)))) (hc : c = if may then l ++ l' else []) (w : World) :
    Calls Tryz.prog 301 #[.agg #[.int .u64 (b:Int), .int .i64 n], .agg #[.int .u64 (b':Int), .int .i64 n']] w fun e w'=>
    e= .returned (.tuple #[.agg #[.int .u64 (pack c:Int), .int .i64 (c.length:Int)], .bool may])∧Below w.heap.size w w':=by
  rcases h with ⟨rfl,h,rfl,rfl⟩|⟨rfl,rfl,hb,h⟩
  · rcases h' with ⟨rfl,h',rfl,rfl⟩|⟨rfl,rfl,hb',h'⟩
    · by_cases g:(l.length:Int)+(l'.length:Int)≤64
      · obtain rfl:may=true:=by simp [hm,g]
        simp at hc
        exact join_at l l' c (by omega) _ _ _ _ rfl rfl rfl rfl hc w
      · obtain rfl:may=false:=by rw [hm];simp;omega
        obtain rfl:c=[]:=by simpa using hc
        exact join_long l l' h h' (by omega) w
    · obtain rfl:may=false:=by simpa using hm
      obtain rfl:c=[]:=by simpa using hc
      exact join_no2 l h b' n' hb' h' w
  · obtain rfl:may=false:=by simpa using hm
    obtain rfl:c=[]:=by simpa using hc
    exact join_no1 b n hb h _ _ w
end
theorem lf_of (a n:Int) (h:U64 a): ∃B:Nat,a=B∧Lf B n (lfOk a n) (lfL a n):=by
  obtain ⟨b,rfl⟩:=Int.eq_ofNat_of_zero_le h.1
  refine ⟨b,rfl,?_⟩
  unfold lfOk lfL
  rw [Int.toNat_natCast]
  by_cases hr:Rt b n
  · rw [if_pos hr]
    obtain ⟨n,rfl⟩:=Int.eq_ofNat_of_zero_le hr.1
    exact .inl ⟨by simpa using hr,by rw [Int.toNat_natCast,unpack_length];have:=hr.2.1;omega,by rw [Int.toNat_natCast,pack_unpack];simpa using hr.2.2,by rw [Int.toNat_natCast,unpack_length]⟩
  · rw [if_neg hr]
    exact .inr ⟨by simpa using hr,rfl,by have:=h.2;omega,hr⟩
theorem lf_self {l:List Bool} (h:l.length≤64):Lf (pack l) l.length true l:= .inl ⟨rfl,h,rfl,rfl⟩
section
variable {a n : Int} (hU : U64 a)
include hU
theorem rank_i (i:Int) (w:World):Calls Tryz.prog 288 #[.agg #[.int .u64 a, .int .i64 n], .int .i64 i] w fun e w'=>e= .returned (.int .i64 (rankL (lfL a n) i))∧Below w.heap.size w w':=by
  obtain ⟨B,hB,hL⟩:=lf_of a n hU
  generalize lfOk a n=ok at hL;generalize lfL a n=l at hL⊢
  subst hB
  exact rank_lf hL i _ rfl w
theorem get_i (i:Int) (w:World):Calls Tryz.prog 269 #[.agg #[.int .u64 a, .int .i64 n], .int .i64 i] w fun e w'=>e= .returned (.bool (getL (lfL a n) i))∧Below w.heap.size w w':=by
  obtain ⟨B,hB,hL⟩:=lf_of a n hU
  generalize lfOk a n=ok at hL;generalize lfL a n=l at hL⊢
  subst hB
  exact get_lf hL i _ rfl w
theorem insert_i (i : Int) (one : Bool) (w : World) : Calls Tryz.prog 257 #[.agg #[.int .u64 a, .int .i64 n], .int .i64 i, .bool one] w fun e w' =>
    e= .returned (.tuple #[.agg #[.int .u64 (pack (insR (lfOk a n) (lfL a n) i one):Int), .int .i64 ((insR (lfOk a n) (lfL a n) i one).length:Int)], .bool (insOk (lfOk a n) (lfL a n) i)])∧Below w.heap.size w w':=by
  obtain ⟨B,hB,hL⟩:=lf_of a n hU
  generalize lfOk a n=ok at hL⊢;generalize lfL a n=l at hL⊢
  subst hB
  exact insert_lf hL i one _ _ rfl rfl w
theorem split_i (i : Int) (w : World) : Calls Tryz.prog 260 #[.agg #[.int .u64 a, .int .i64 n], .int .i64 i] w fun e w' =>
    e= .returned (.tuple #[.agg #[.int .u64 (pack ((lfL a n).take i.toNat):Int), .int .i64 (((lfL a n).take i.toNat).length:Int)], .agg #[.int .u64 (pack ((lfL a n).drop i.toNat):Int), .int .i64 (((lfL a n).drop i.toNat).length:Int)]])∧Below w.heap.size w w':=by
  obtain ⟨B,hB,hL⟩:=lf_of a n hU
  generalize lfOk a n=ok at hL;generalize lfL a n=l at hL⊢
  subst hB
  exact split_lf hL i _ _ rfl rfl w
theorem delete_i (i : Int) (w : World) : Calls Tryz.prog 324 #[.agg #[.int .u64 a, .int .i64 n], .int .i64 i] w fun e w' =>
    e= .returned (.tuple #[.agg #[.int .u64 (pack (delR (lfOk a n) (lfL a n) i):Int), .int .i64 ((delR (lfOk a n) (lfL a n) i).length:Int)], .bool (delOk (lfOk a n) (lfL a n) i)])∧Below w.heap.size w w':=by
  obtain ⟨B,hB,hL⟩:=lf_of a n hU
  generalize lfOk a n=ok at hL⊢;generalize lfL a n=l at hL⊢
  subst hB
  exact delete_lf hL i _ _ rfl rfl w
end
end
section
open Go.RowKit
attribute [local go_sem ↓] Go.wp_at_zero Go.wp_at_succ
attribute [local go_sem] lt_s2 lt_s3 lt_s4
variable {ap : Value} {s : Ar} {O : Nat → Prop}
theorem bLen_calls (h : Int) (w : World) (hA : AP w ap s O) :
    Calls Tryz.prog 189 #[ap, .int .i64 h] w fun e w'=>e= .returned (.int .i64 (bLen s h))∧Below w.heap.size w w':=by
  unfold bLen
  cases h1:bIs s h with
  | false=>
    go_enter Tryz.func189,Tryz.ntmps189
    go_wp2_with fail
    refine cg fun V hV_V=> ?_
    have hB:=Below.refl w.heap.size w
    refine nea0 hV_V hA hB ?_;clear hA hB;intro z_V hA hB
    clear hV_V
    refine rC (bRow_calls _ _ hA) fun w1 hb_w1=> ?_
    refine bea0 hb_w1 hA hB ?_;clear hb_w1 hA hB;intro z_w1 hA hB
    unfold Nd.val
    go_wp2_with fail
    go_ret
    exact ⟨rfl,bel⟩
  | true=>
    rw [if_pos rfl]
    by_cases h2:(s.get h).tag=1
    · have d1:((s.get h).tag==1)=true:=by simpa using h2
      rw [if_pos h2]
      clear h2
      go_enter Tryz.func189,Tryz.ntmps189
      go_wp2_with fail
      refine cg fun V hV_V=> ?_
      have hB:=Below.refl w.heap.size w
      refine nea0 hV_V hA hB ?_;clear hA hB;intro z_V hA hB
      clear hV_V
      refine rC (bRow_calls _ _ hA) fun w1 hb_w1=> ?_
      refine bea0 hb_w1 hA hB ?_;clear hb_w1 hA hB;intro z_w1 hA hB
      unfold Nd.val
      go_wp2_with fail
      go_ret
      exact ⟨rfl,bel⟩
    · have d1:((s.get h).tag==1)=false:=by simpa using h2
      rw [if_neg h2]
      clear h2
      go_enter Tryz.func189,Tryz.ntmps189
      go_wp2_with fail
      refine cg fun V hV_V=> ?_
      have hB:=Below.refl w.heap.size w
      refine nea0 hV_V hA hB ?_;clear hA hB;intro z_V hA hB
      clear hV_V
      refine rC (bRow_calls _ _ hA) fun w1 hb_w1=> ?_
      refine bea0 hb_w1 hA hB ?_;clear hb_w1 hA hB;intro z_w1 hA hB
      unfold Nd.val
      go_wp2_with fail
      go_ret
      exact ⟨rfl,bel⟩
theorem bBits_calls (n : Nd) (w : World) :
    Calls Tryz.prog 259 #[n.val] w fun e w'=>e= .returned (.agg #[.int .u64 n.a, .int .i64 (wrap64 n.b)])∧Below w.heap.size w w':=by
  unfold Nd.val
  go_enter Tryz.func259,Tryz.ntmps259
  go_wp2_with fail
  refine bodyPost_ret (v:= .agg #[.int .u64 n.a, .int .i64 (wrap64 n.b)]) (by simp [results,Tryz.results259,go_sem, *]) rfl ⟨rfl,?_⟩
  (repeat' first|with_reducible assumption|with_reducible exact Below.refl _ _|with_reducible refine Below.alloc ?_ ?_ _|with_reducible refine Below.setCell ?_ ?_ _|with_reducible refine below_drewN ?_ _|with_reducible refine Below.drew ?_|exact Nat.le_refl _|((try dsimp only);omega)|(simp only [siz_alloc,siz_set];omega))
theorem bOnes_calls (h : Int) (w : World) (hA : AP w ap s O) :
    Calls Tryz.prog 289 #[ap, .int .i64 h] w fun e w'=>e= .returned (.int .i64 (bOnes s h))∧Below w.heap.size w w':=by
  unfold bOnes
  cases h1:bIs s h with
  | false=>
    go_enter Tryz.func289,Tryz.ntmps289
    go_wp2_with fail
    refine cg fun V hV_V=> ?_
    have hB:=Below.refl w.heap.size w
    refine nea0 hV_V hA hB ?_;clear hA hB;intro z_V hA hB
    clear hV_V
    refine rC (bRow_calls _ _ hA) fun w1 hb_w1=> ?_
    refine bea0 hb_w1 hA hB ?_;clear hb_w1 hA hB;intro z_w1 hA hB
    unfold Nd.val
    go_wp2_with fail
    go_ret
    exact ⟨rfl,bel⟩
  | true=>
    rw [if_pos rfl]
    by_cases h2:(s.get h).tag=1
    · have d1:((s.get h).tag==1)=true:=by simpa using h2
      have hU:=hA.1.get64 h
      rw [if_pos h2]
      clear h2
      go_enter Tryz.func289,Tryz.ntmps289
      go_wp2_with fail
      refine cg fun V hV_V=> ?_
      have hB:=Below.refl w.heap.size w
      refine nea0 hV_V hA hB ?_;clear hA hB;intro z_V hA hB
      clear hV_V
      refine rC (bRow_calls _ _ hA) fun w1 hb_w1=> ?_
      refine bea0 hb_w1 hA hB ?_;clear hb_w1 hA hB;intro z_w1 hA hB
      unfold Nd.val
      go_wp2_with fail
      refine wg fun V1 hV_V1=> ?_
      refine nna0 hV_V1 hA hB ?_;clear hA hB;intro hn_V1 z_V1 hA hB
      obtain ⟨k0,c_k0,o_k0,l_k0V1⟩:=nN hn_V1 hV_V1 (w1.heap.size)
      clear hV_V1 hn_V1
      refine dr (fun v=>Sm v V1 (w1.heap.size)∧(V1.heap.size≤v.heap.size)∧AP v ap s O) ⟨fun _=>rfl,Nat.le_refl _,hA.drew⟩ fun V1d hV_V1d hHeld=> ?_
      have v_k0:=c_k0.1
      refine nea1 hV_V1d hA hB k0 ?_;clear hA hB k0 c_k0;intro z_V1d hA hB k0 c_k0
      clear hV_V1d
      refine ta 0 hHeld ?_
      refine ta 2 hHeld ?_
      refine ta 3 hHeld ?_
      refine ta 4 hHeld ?_
      refine rd 1 rfl fun K hK=> ?_
      go_simp
      try simp only [IntWalk.i64_left]
      refine rC (bBits_calls (s.get h) _) fun w2 hb_w2=> ?_
      refine bea1 hb_w2 hA hB k0 ?_;clear hb_w2 hA hB k0 c_k0;intro z_w2 hA hB k0 c_k0
      refine ho hK ⟨vv c_k0 v_k0,by omega,hA⟩ fun hHeld=> ?_
      clear hK K
      refine rd 5 rfl fun K hK=> ?_
      go_simp
      try simp only [IntWalk.i64_left]
      refine rC (rank_i hU _ _) fun w3 hb_w3=> ?_
      refine bea1 hb_w3 hA hB k0 ?_;clear hb_w3 hA hB k0 c_k0;intro z_w3 hA hB k0 c_k0
      refine ho hK ⟨vv c_k0 v_k0,by omega,hA⟩ fun hHeld=> ?_
      clear hK K
      refine rd 6 rfl fun K hK=> ?_
      go_simp
      refine ho hK hHeld fun hHeld=> ?_
      clear hK K
      refine wd ?_
      go_wp2_with fail
      go_ret
      exact ⟨by simp only [IntWalk.i64_left];rfl,bel⟩
    · have d1:((s.get h).tag==1)=false:=by simpa using h2
      rw [if_neg h2]
      clear h2
      go_enter Tryz.func289,Tryz.ntmps289
      go_wp2_with fail
      refine cg fun V hV_V=> ?_
      have hB:=Below.refl w.heap.size w
      refine nea0 hV_V hA hB ?_;clear hA hB;intro z_V hA hB
      clear hV_V
      refine rC (bRow_calls _ _ hA) fun w1 hb_w1=> ?_
      refine bea0 hb_w1 hA hB ?_;clear hb_w1 hA hB;intro z_w1 hA hB
      unfold Nd.val
      go_wp2_with fail
      go_ret
      exact ⟨rfl,bel⟩
theorem bGet_calls (h i : Int) (r : Bool × Bool) (hr : bGet s h i = some r) (w : World) (hA : AP w ap s O) :
    Calls Tryz.prog 201 #[ap, .int .i64 h, .int .i64 i] w fun e w'=>e= .returned (.tuple #[.bool r.1, .bool r.2])∧Below w.heap.size w w':=by
  unfold bGet at hr
  by_cases h1:i<0
  · rw [if_pos (.inl h1)] at hr
    have d1:decide (i<0)=true:=by simpa using h1
    cases hr
    clear h1
    go_enter Tryz.func201,Tryz.ntmps201
    go_wp2_with fail
    go_step3
    go_wp2_with fail
    simp only [Exit.noGoto_ret]
    go_ret2
    exact ⟨rfl,bel⟩
  · have d1:decide (i<0)=false:=by simpa using h1
    by_cases h2:bLen s h≤i
    · rw [if_pos (.inr h2)] at hr
      have d2:decide (bLen s h≤i)=true:=by simpa using h2
      cases hr
      clear h1 h2
      go_enter Tryz.func201,Tryz.ntmps201
      go_wp2_with fail
      go_step3
      go_wp2_with fail
      refine cg fun V hV_V=> ?_
      have hB:=Below.refl w.heap.size w
      refine nea0 hV_V hA hB ?_;clear hA hB;intro z_V hA hB
      clear hV_V
      refine rC (bLen_calls _ _ hA) fun w1 hb_w1=> ?_
      refine bea0 hb_w1 hA hB ?_;clear hb_w1 hA hB;intro z_w1 hA hB
      go_wp2_with fail
      simp only [Exit.noGoto_ret]
      go_ret2
      exact ⟨rfl,bel⟩
    · rw [if_neg (by omega)] at hr
      have d2:decide (bLen s h≤i)=false:=by simpa using h2
      clear h1 h2
      obtain ⟨b,hb,rfl⟩: ∃b,bGetL rounds s h i=some b∧r=(b,true):=by
        cases e:bGetL rounds s h i with
        | none=>rw [e] at hr;cases hr
        | some b=>rw [e] at hr;cases hr;exact ⟨b,rfl,rfl⟩
      have hb':=Lib.hid hb;clear hb hr
      go_enter Tryz.func201,Tryz.ntmps201
      go_wp2_with fail
      refine wp_scope_ghost 0 (fun n a' wr=> ∃x y,(Below w.heap.size w wr∧Hid (bGetL n s x y=some b))∧ ∃u3 u4 u5 u6 u7 u8 u9 u10 u11 u12 u13 u14 u15 u16 u17 u18 u19 u20 u21 u22 u23 u24 u25 u26 u27 u28 u29 u30 u31 u32 u33 u34 u35 u36 u37 u38 u39 u40 u41 u42 u43 u44 u45 u46 u47:Value,a'={tmps:= #[(ap:Value),(.int .i64 x:Value),(.int .i64 y:Value),u3,u4,u5,u6,u7,u8,u9,u10,u11,u12,u13,u14,u15,u16,u17,u18,u19,u20,u21,u22,u23,u24,u25,u26,u27,u28,u29,u30,u31,u32,u33,u34,u35,u36,u37,u38,u39,u40,u41,u42,u43,u44,u45,u46,u47],defers:=[]}) (by rfl) ?first ?pass
      case first=>
        intro hrest
        go_wp2_with fail
        refine cg fun V hV_V=> ?_
        have hB:=Below.refl w.heap.size w
        refine nea0 hV_V hA hB ?_;clear hA hB;intro z_V hA hB
        clear hV_V
        refine rC (bLen_calls _ _ hA) fun w1 hb_w1=> ?_
        refine bea0 hb_w1 hA hB ?_;clear hb_w1 hA hB;intro z_w1 hA hB
        go_wp2_with fail
        go_step3
        go_step
        go_step
        refine hrest rounds _ _ ⟨h,i,⟨hB,hb'⟩,?_⟩
        exact ⟨_,_,_,_,_,_,_,_,_,_,_,_,_,_,_,_,_,_,_,_,_,_,_,_,_,_,_,_,_,_,_,_,_,_,_,_,_,_,_,_,_,_,_,_,_,rfl⟩
      case pass=>
        rintro n a' wr ⟨x,y,⟨hB,hb'⟩,u3,u4,u5,u6,u7,u8,u9,u10,u11,u12,u13,u14,u15,u16,u17,u18,u19,u20,u21,u22,u23,u24,u25,u26,u27,u28,u29,u30,u31,u32,u33,u34,u35,u36,u37,u38,u39,u40,u41,u42,u43,u44,u45,u46,u47,rfl⟩ J hJ
        have hA:=hA.below hB
        have z_r:=hB.size
        have hb:=hb'.out
        clear hb'
        cases n with
        | zero=>exact absurd hb (by simp [bGetL])
        | succ n=>
          unfold bGetL at hb
          by_cases h2:(s.get x).tag=1
          · rw [if_pos h2] at hb
            have d1:((s.get x).tag==1)=true:=by simpa using h2
            have hU:=hA.1.get64 x
            obtain rfl:=Option.some.inj hb
            clear hb h2
            go_wp2_with fail
            refine cg fun V1 hV_V1=> ?_
            refine nea0 hV_V1 hA hB ?_;clear hA hB;intro z_V1 hA hB
            clear hV_V1
            refine rC (bRow_calls _ _ hA) fun w2 hb_w2=> ?_
            refine bea0 hb_w2 hA hB ?_;clear hb_w2 hA hB;intro z_w2 hA hB
            unfold Nd.val
            go_wp2_with fail
            refine cg fun V2 hV_V2=> ?_
            refine nna0 hV_V2 hA hB ?_;clear hA hB;intro hn_V2 z_V2 hA hB
            obtain ⟨k0,c_k0,o_k0,l_k0V2⟩:=nN hn_V2 hV_V2 (w2.heap.size)
            clear hV_V2 hn_V2
            refine rC (bBits_calls (s.get x) _) fun w3 hb_w3=> ?_
            refine bea1 hb_w3 hA hB k0 ?_;clear hb_w3 hA hB k0 c_k0;intro z_w3 hA hB k0 c_k0
            go_wp2_with fail
            refine rC (get_i hU _ _) fun w4 hb_w4=> ?_
            refine bea1 hb_w4 hA hB k0 ?_;clear hb_w4 hA hB k0 c_k0;intro z_w4 hA hB k0 c_k0
            go_wp2_with fail
            simp only [Exit.jump]
            go_ret2
            exact ⟨rfl,bel⟩
          · rw [if_neg h2] at hb
            have d1:((s.get x).tag==1)=false:=by simpa using h2
            clear h2
            by_cases h3:bLen s (s.get x).k0≤y
            · rw [if_pos h3] at hb
              have d3:decide (bLen s (s.get x).k0≤y)=true:=by simpa using h3
              have hb':=Lib.hid hb;clear hb h3
              go_wp2_with fail
              refine cg fun V1 hV_V1=> ?_
              refine nea0 hV_V1 hA hB ?_;clear hA hB;intro z_V1 hA hB
              clear hV_V1
              refine rC (bRow_calls _ _ hA) fun w2 hb_w2=> ?_
              refine bea0 hb_w2 hA hB ?_;clear hb_w2 hA hB;intro z_w2 hA hB
              unfold Nd.val
              go_wp2_with fail
              refine cg fun V2 hV_V2=> ?_
              refine nna0 hV_V2 hA hB ?_;clear hA hB;intro hn_V2 z_V2 hA hB
              obtain ⟨k0,c_k0,o_k0,l_k0V2⟩:=nN hn_V2 hV_V2 (w2.heap.size)
              clear hV_V2 hn_V2
              refine rC (bLen_calls _ _ hA) fun w3 hb_w3=> ?_
              refine bea1 hb_w3 hA hB k0 ?_;clear hb_w3 hA hB k0 c_k0;intro z_w3 hA hB k0 c_k0
              go_wp2_with fail
              go_step3
              refine ⟨rfl,hJ _ _ ⟨n,by omega,_,_,⟨bel,hb'⟩,?_⟩⟩
              exact ⟨_,_,_,_,_,_,_,_,_,_,_,_,_,_,_,_,_,_,_,_,_,_,_,_,_,_,_,_,_,_,_,_,_,_,_,_,_,_,_,_,_,_,_,_,_,rfl⟩
            · rw [if_neg h3] at hb
              have d3:decide (bLen s (s.get x).k0≤y)=false:=by simpa using h3
              have hb':=Lib.hid hb;clear hb h3
              go_wp2_with fail
              refine cg fun V1 hV_V1=> ?_
              refine nea0 hV_V1 hA hB ?_;clear hA hB;intro z_V1 hA hB
              clear hV_V1
              refine rC (bRow_calls _ _ hA) fun w2 hb_w2=> ?_
              refine bea0 hb_w2 hA hB ?_;clear hb_w2 hA hB;intro z_w2 hA hB
              unfold Nd.val
              go_wp2_with fail
              refine cg fun V2 hV_V2=> ?_
              refine nna0 hV_V2 hA hB ?_;clear hA hB;intro hn_V2 z_V2 hA hB
              obtain ⟨k0,c_k0,o_k0,l_k0V2⟩:=nN hn_V2 hV_V2 (w2.heap.size)
              clear hV_V2 hn_V2
              refine rC (bLen_calls _ _ hA) fun w3 hb_w3=> ?_
              refine bea1 hb_w3 hA hB k0 ?_;clear hb_w3 hA hB k0 c_k0;intro z_w3 hA hB k0 c_k0
              go_wp2_with fail
              go_step3
              refine ⟨rfl,hJ _ _ ⟨n,by omega,_,_,⟨bel,hb'⟩,?_⟩⟩
              exact ⟨_,_,_,_,_,_,_,_,_,_,_,_,_,_,_,_,_,_,_,_,_,_,_,_,_,_,_,_,_,_,_,_,_,_,_,_,_,_,_,_,_,_,_,_,_,rfl⟩
end
section
open Go.RowKit
attribute [local go_sem ↓] Go.wp_at_zero Go.wp_at_succ
attribute [local go_sem] lt_s2 lt_s3 lt_s4
variable {ap : Value} {s : Ar} {O : Nat → Prop}
theorem minmax (i n:Int) {P:Prop} (h1:i<0→n<0→imin (imax i 0) n=n→P) (h2:i<0→ ¬n<0→imin (imax i 0) n=0→P) (h3: ¬i<0→n<i→imin (imax i 0) n=n→P) (h4: ¬i<0→ ¬n<i→imin (imax i 0) n=i→P):P:=by
  by_cases c1:i<0
  · by_cases c2:n<0
    · exact h1 c1 c2 (by unfold imin imax;split<;>split<;>omega)
    · exact h2 c1 c2 (by unfold imin imax;split<;>split<;>omega)
  · by_cases c2:n<i
    · exact h3 c1 c2 (by unfold imin imax;split<;>split<;>omega)
    · exact h4 c1 c2 (by unfold imin imax;split<;>split<;>omega)
theorem bRank_calls (h i r : Int) (hr : bRank s h i = some r) (w : World) (hA : AP w ap s O) :
    Calls Tryz.prog 232 #[ap, .int .i64 h, .int .i64 i] w fun e w'=>e= .returned (.int .i64 r)∧Below w.heap.size w w':=by
  unfold bRank at hr
  have hr':=Lib.hid hr;clear hr
  go_enter Tryz.func232,Tryz.ntmps232
  go_wp2_with fail
  refine wp_scope_ghost 0 (fun n a' wr=> ∃x y z,(Below w.heap.size w wr∧Hid (bRankL n s x y z=some r))∧ ∃u3 u4 u5 u6 u8 u9 u10 u11 u12 u13 u14 u15 u16 u17 u18 u19 u20 u21 u22 u23 u24 u25 u26 u27 u28 u29 u30 u31 u32 u33 u34 u35 u36 u37 u38 u39 u40 u41 u42 u43 u44 u45 u46 u47 u48 u49 u50 u51 u52 u53:Value,a'={tmps:= #[(ap:Value),(.int .i64 x:Value),(.int .i64 y:Value),u3,u4,u5,u6,(.int .i64 z:Value),u8,u9,u10,u11,u12,u13,u14,u15,u16,u17,u18,u19,u20,u21,u22,u23,u24,u25,u26,u27,u28,u29,u30,u31,u32,u33,u34,u35,u36,u37,u38,u39,u40,u41,u42,u43,u44,u45,u46,u47,u48,u49,u50,u51,u52,u53],defers:=[]}) (by rfl) ?first ?pass
  case first=>
    intro hrest
    have hr:=hr'.out
    clear hr'
    refine minmax i (bLen s h) ?_ ?_ ?_ ?_<;>intro c1 c2 hm<;>rw [hm] at hr<;>clear hm
    all_goals
      split at hr
      · rename_i hz
        have d3:=beq_iff_eq.2 hz
        cases hr
        clear hz
        go_wp2_with fail
        refine cg fun V hV_V=> ?_
        have hB:=Below.refl w.heap.size w
        refine nea0 hV_V hA hB ?_;clear hA hB;intro z_V hA hB
        clear hV_V
        refine rC (bLen_calls _ _ hA) fun w1 hb_w1=> ?_
        refine bea0 hb_w1 hA hB ?_;clear hb_w1 hA hB;intro z_w1 hA hB
        go_wp2_with fail
        simp only [Exit.jump]
        go_ret
        exact ⟨rfl,bel⟩
      · rename_i hz
        first
        | exact absurd rfl hz
        | have d3:=beq_eq_false_iff_ne.2 hz
          have hb':=Lib.hid hr;clear hr hz
          go_wp2_with fail
          refine cg fun V hV_V=> ?_
          have hB:=Below.refl w.heap.size w
          refine nea0 hV_V hA hB ?_;clear hA hB;intro z_V hA hB
          clear hV_V
          refine rC (bLen_calls _ _ hA) fun w1 hb_w1=> ?_
          refine bea0 hb_w1 hA hB ?_;clear hb_w1 hA hB;intro z_w1 hA hB
          go_wp2_with fail
          go_step3
          go_step
          go_step
          refine hrest rounds _ _ ⟨h,_,0,⟨hB,hb'⟩,?_⟩
          exact ⟨_,_,_,_,_,_,_,_,_,_,_,_,_,_,_,_,_,_,_,_,_,_,_,_,_,_,_,_,_,_,_,_,_,_,_,_,_,_,_,_,_,_,_,_,_,_,_,_,_,_,rfl⟩
  case pass=>
    rintro n a' wr ⟨x,y,z,⟨hB,hb'⟩,u3,u4,u5,u6,u8,u9,u10,u11,u12,u13,u14,u15,u16,u17,u18,u19,u20,u21,u22,u23,u24,u25,u26,u27,u28,u29,u30,u31,u32,u33,u34,u35,u36,u37,u38,u39,u40,u41,u42,u43,u44,u45,u46,u47,u48,u49,u50,u51,u52,u53,rfl⟩ J hJ
    have hA:=hA.below hB
    have z_r:=hB.size
    have hb:=hb'.out
    clear hb' hr'
    cases n with
    | zero=>exact absurd hb (by simp [bRankL])
    | succ n=>
      unfold bRankL at hb
      by_cases h2:(s.get x).tag=1
      · rw [if_pos h2] at hb
        have d1:((s.get x).tag==1)=true:=by simpa using h2
        have hU:=hA.1.get64 x
        obtain rfl:=Option.some.inj hb
        clear hb h2
        go_wp2_with fail
        refine cg fun V1 hV_V1=> ?_
        refine nea0 hV_V1 hA hB ?_;clear hA hB;intro z_V1 hA hB
        clear hV_V1
        refine rC (bRow_calls _ _ hA) fun w2 hb_w2=> ?_
        refine bea0 hb_w2 hA hB ?_;clear hb_w2 hA hB;intro z_w2 hA hB
        unfold Nd.val
        go_wp2_with fail
        refine cg fun V2 hV_V2=> ?_
        refine nna0 hV_V2 hA hB ?_;clear hA hB;intro hn_V2 z_V2 hA hB
        obtain ⟨k0,c_k0,o_k0,l_k0V2⟩:=nN hn_V2 hV_V2 (w2.heap.size)
        clear hV_V2 hn_V2
        refine rC (bBits_calls (s.get x) _) fun w3 hb_w3=> ?_
        refine bea1 hb_w3 hA hB k0 ?_;clear hb_w3 hA hB k0 c_k0;intro z_w3 hA hB k0 c_k0
        go_wp2_with fail
        refine rC (rank_i hU _ _) fun w4 hb_w4=> ?_
        refine bea1 hb_w4 hA hB k0 ?_;clear hb_w4 hA hB k0 c_k0;intro z_w4 hA hB k0 c_k0
        go_wp2_with fail
        simp only [Exit.jump]
        go_ret
        exact ⟨rfl,bel⟩
      · rw [if_neg h2] at hb
        have d1:((s.get x).tag==1)=false:=by simpa using h2
        clear h2
        by_cases h3:bLen s (s.get x).k0<y
        · rw [if_pos h3] at hb
          have d3:decide (bLen s (s.get x).k0<y)=true:=by simpa using h3
          have hb':=Lib.hid hb;clear hb h3
          go_wp2_with fail
          refine cg fun V1 hV_V1=> ?_
          refine nea0 hV_V1 hA hB ?_;clear hA hB;intro z_V1 hA hB
          clear hV_V1
          refine rC (bRow_calls _ _ hA) fun w2 hb_w2=> ?_
          refine bea0 hb_w2 hA hB ?_;clear hb_w2 hA hB;intro z_w2 hA hB
          unfold Nd.val
          go_wp2_with fail
          refine cg fun V2 hV_V2=> ?_
          refine nna0 hV_V2 hA hB ?_;clear hA hB;intro hn_V2 z_V2 hA hB
          obtain ⟨k0,c_k0,o_k0,l_k0V2⟩:=nN hn_V2 hV_V2 (w2.heap.size)
          clear hV_V2 hn_V2
          refine rC (bLen_calls _ _ hA) fun w3 hb_w3=> ?_
          refine bea1 hb_w3 hA hB k0 ?_;clear hb_w3 hA hB k0 c_k0;intro z_w3 hA hB k0 c_k0
          go_wp2_with fail
          refine rC (bOnes_calls _ _ hA) fun w4 hb_w4=> ?_
          refine bea1 hb_w4 hA hB k0 ?_;clear hb_w4 hA hB k0 c_k0;intro z_w4 hA hB k0 c_k0
          go_wp2_with fail
          go_step3
          refine ⟨rfl,hJ _ _ ⟨n,by omega,_,_,_,⟨bel,hb'⟩,?_⟩⟩
          exact ⟨_,_,_,_,_,_,_,_,_,_,_,_,_,_,_,_,_,_,_,_,_,_,_,_,_,_,_,_,_,_,_,_,_,_,_,_,_,_,_,_,_,_,_,_,_,_,_,_,_,_,rfl⟩
        · rw [if_neg h3] at hb
          have d3:decide (bLen s (s.get x).k0<y)=false:=by simpa using h3
          have hb':=Lib.hid hb;clear hb h3
          go_wp2_with fail
          refine cg fun V1 hV_V1=> ?_
          refine nea0 hV_V1 hA hB ?_;clear hA hB;intro z_V1 hA hB
          clear hV_V1
          refine rC (bRow_calls _ _ hA) fun w2 hb_w2=> ?_
          refine bea0 hb_w2 hA hB ?_;clear hb_w2 hA hB;intro z_w2 hA hB
          unfold Nd.val
          go_wp2_with fail
          refine cg fun V2 hV_V2=> ?_
          refine nna0 hV_V2 hA hB ?_;clear hA hB;intro hn_V2 z_V2 hA hB
          obtain ⟨k0,c_k0,o_k0,l_k0V2⟩:=nN hn_V2 hV_V2 (w2.heap.size)
          clear hV_V2 hn_V2
          refine rC (bLen_calls _ _ hA) fun w3 hb_w3=> ?_
          refine bea1 hb_w3 hA hB k0 ?_;clear hb_w3 hA hB k0 c_k0;intro z_w3 hA hB k0 c_k0
          go_wp2_with fail
          go_step3
          refine ⟨rfl,hJ _ _ ⟨n,by omega,_,_,_,⟨bel,hb'⟩,?_⟩⟩
          exact ⟨_,_,_,_,_,_,_,_,_,_,_,_,_,_,_,_,_,_,_,_,_,_,_,_,_,_,_,_,_,_,_,_,_,_,_,_,_,_,_,_,_,_,_,_,_,_,_,_,_,_,rfl⟩
end
section
open Go.RowKit
attribute [local go_sem ↓] Go.wp_at_zero Go.wp_at_succ
attribute [local go_sem] lt_s2 lt_s3 lt_s4
variable {ap : Value} {s : Ar} {O : Nat → Prop}
theorem wIs_calls (x:Int) (w:World):Calls Tryz.prog 187 #[.int .i64 x] w fun e w'=>e= .returned (.bool (wIs x))∧w=w':=by
  unfold wIs
  by_cases h1:0≤x
  · have d1:decide (0≤x)=true:=by simpa using h1
    go_enter Tryz.func187,Tryz.ntmps187
    go_wp2_with fail
    go_ret
    exact ⟨by first|rfl|(rw [d1];rfl),rfl⟩
  · have d1:decide (0≤x)=false:=by simpa using h1
    go_enter Tryz.func187,Tryz.ntmps187
    go_wp2_with fail
    go_ret
    exact ⟨by first|rfl|(rw [d1];rfl),rfl⟩
theorem wKid_calls (n:Nd) (one:Bool) (w:World):Calls Tryz.prog 203 #[n.val, .bool one] w fun e w'=>e= .returned (.int .i64 (n.kid one))∧Below w.heap.size w w':=by
  unfold Nd.val
  cases one with
  | true=>
    go_enter Tryz.func203,Tryz.ntmps203
    go_wp2_with fail
    go_ret
    exact ⟨rfl,bel⟩
  | false=>
    go_enter Tryz.func203,Tryz.ntmps203
    go_wp2_with fail
    go_ret
    exact ⟨rfl,bel⟩
theorem wLen_calls (h : Int) (w : World) (hA : AP w ap s O) :
    Calls Tryz.prog 142 #[ap, .int .i64 h] w fun e w'=>e= .returned (.int .i64 (wLen s h))∧Below w.heap.size w w':=by
  go_enter Tryz.func142,Tryz.ntmps142
  go_wp2_with fail
  refine cg fun V hV_V=> ?_
  have hB:=Below.refl w.heap.size w
  refine nea0 hV_V hA hB ?_;clear hA hB;intro z_V hA hB
  clear hV_V
  refine rC (wRow_calls _ _ hA) fun W1 hb_W1=> ?_
  refine bea0 hb_W1 hA hB ?_;clear hb_W1 hA hB;intro z_W1 hA hB
  unfold Nd.val
  go_wp2_with fail
  refine cg fun V1 hV_V1=> ?_
  refine nna0 hV_V1 hA hB ?_;clear hA hB;intro hn_V1 z_V1 hA hB
  obtain ⟨kn,c_kn,o_kn,l_knV1⟩:=nN hn_V1 hV_V1 (W1.heap.size)
  clear hV_V1 hn_V1
  refine rC (bLen_calls _ _ hA) fun W2 hb_W2=> ?_
  refine bea1 hb_W2 hA hB kn ?_;clear hb_W2 hA hB kn c_kn;intro z_W2 hA hB kn c_kn
  go_wp2_with fail
  go_ret
  exact ⟨rfl,bel⟩
theorem wAlike_calls (h i : Int) (one : Bool) (r : Int) (hr : wAlike s h i one = some r) (w : World) (hA : AP w ap s O) :
    Calls Tryz.prog 202 #[ap, .int .i64 h, .int .i64 i, .bool one] w fun e w'=>e= .returned (.int .i64 r)∧Below w.heap.size w w':=by
  unfold wAlike at hr
  obtain ⟨u,hu,hr⟩:=Option.map_eq_some_iff.1 hr
  cases one with
  | true=>
    rw [if_pos rfl] at hr
    subst hr
    refine minmax i (bLen s h) ?_ ?_ ?_ ?_<;>intro c1 c2 hm<;>rw [hm] at hu<;>clear hm
    all_goals
      have Hu:=Lib.hid hu;clear hu
      go_enter Tryz.func202,Tryz.ntmps202
      go_wp2_with fail
      refine cg fun V hV_V=> ?_
      have hB:=Below.refl w.heap.size w
      refine nea0 hV_V hA hB ?_;clear hA hB;intro z_V hA hB
      clear hV_V
      refine rC (bLen_calls _ _ hA) fun W1 hb_W1=> ?_
      refine bea0 hb_W1 hA hB ?_;clear hb_W1 hA hB;intro z_W1 hA hB
      go_wp2_with fail
      refine cg fun V1 hV_V1=> ?_
      refine nea0 hV_V1 hA hB ?_;clear hA hB;intro z_V1 hA hB
      clear hV_V1
      refine rC (bRank_calls _ _ _ Hu.out _ hA) fun W2 hb_W2=> ?_
      refine bea0 hb_W2 hA hB ?_;clear hb_W2 hA hB;intro z_W2 hA hB
      go_wp2_with fail
      go_ret
      exact ⟨rfl,bel⟩
  | false=>
    rw [if_neg (by decide)] at hr
    refine minmax i (bLen s h) ?_ ?_ ?_ ?_<;>intro c1 c2 hm<;>rw [hm] at hu hr<;>clear hm<;>subst hr
    all_goals
      have Hu:=Lib.hid hu;clear hu
      go_enter Tryz.func202,Tryz.ntmps202
      go_wp2_with fail
      refine cg fun V hV_V=> ?_
      have hB:=Below.refl w.heap.size w
      refine nea0 hV_V hA hB ?_;clear hA hB;intro z_V hA hB
      clear hV_V
      refine rC (bLen_calls _ _ hA) fun W1 hb_W1=> ?_
      refine bea0 hb_W1 hA hB ?_;clear hb_W1 hA hB;intro z_W1 hA hB
      go_wp2_with fail
      refine cg fun V1 hV_V1=> ?_
      refine nea0 hV_V1 hA hB ?_;clear hA hB;intro z_V1 hA hB
      clear hV_V1
      refine rC (bRank_calls _ _ _ Hu.out _ hA) fun W2 hb_W2=> ?_
      refine bea0 hb_W2 hA hB ?_;clear hb_W2 hA hB;intro z_W2 hA hB
      go_wp2_with fail
      go_ret
      exact ⟨by first|rfl|(simp only [Int.zero_sub];rfl),bel⟩
end
section
open Go.RowKit
attribute [local go_sem ↓] Go.wp_at_zero Go.wp_at_succ
theorem symBit_out (x l:Int) (h:x<0∨257≤x∨l<0∨9≤l) (w:World):Calls Tryz.prog 230 #[.int .i64 x, .int .i64 l] w fun e w'=>e= .returned (.bool false)∧w=w':=by
  by_cases h1:x<0
  · have d1:decide (x<0)=true:=by simpa using h1
    go_enter Tryz.func230,Tryz.ntmps230
    go_wp2_with fail
    go_ret
    exact ⟨rfl,rfl⟩
  · have d1:decide (x<0)=false:=by simpa using h1
    by_cases h2:257≤x
    · have d2:decide (257≤x)=true:=by simpa using h2
      go_enter Tryz.func230,Tryz.ntmps230
      go_wp2_with fail
      go_ret
      exact ⟨rfl,rfl⟩
    · have d2:decide (257≤x)=false:=by simpa using h2
      by_cases h3:l<0
      · have d3:decide (l<0)=true:=by simpa using h3
        go_enter Tryz.func230,Tryz.ntmps230
        go_wp2_with fail
        go_ret
        exact ⟨rfl,rfl⟩
      · have d3:decide (l<0)=false:=by simpa using h3
        have d4:decide (9≤l)=true:=by simp;omega
        go_enter Tryz.func230,Tryz.ntmps230
        go_wp2_with fail
        go_ret
        exact ⟨rfl,rfl⟩
theorem and_one_i64 (E:Int):bits BinOp.and IntKind.i64 E 1=E % 2:=by
  have h1:(BitVec.ofInt 64 1).toNat=2 ^ 1 - 1:=by decide
  have key:(BitVec.ofInt 64 E&&&BitVec.ofInt 64 1).toNat=(E % ((2 ^ 64:Nat):Int)).toNat % 2 ^ 1:=by
    rw [BitVec.toNat_and,BitVec.toNat_ofInt,h1,Nat.and_two_pow_sub_one_eq_mod]
  show IntKind.i64.wrap ((BitVec.ofInt 64 E&&&BitVec.ofInt 64 1).toNat:Nat)=E % 2
  rw [key,IntKind.wrap_i64]
  omega
theorem symBit_in (n k:Nat) (hn:n<257) (hk:k<9) (w:World):Calls Tryz.prog 230 #[.int .i64 (n:Int), .int .i64 (k:Int)] w fun e w'=>e= .returned (.bool (n.testBit (8 - k)))∧w=w':=by
  have d1:decide ((n:Int)<0)=false:=by simp
  have d2:decide (257≤(n:Int))=false:=by simp;omega
  have d3:decide ((k:Int)<0)=false:=by simp
  have d4:decide (9≤(k:Int))=false:=by simp;omega
  go_enter Tryz.func230,Tryz.ntmps230
  go_wp2_with fail
  go_ret
  refine ⟨?_,rfl⟩
  show Ending.returned (.bool (bits BinOp.and IntKind.i64 ((n:Int)/2 ^ (8 - k)) 1==1))=_
  rw [and_one_i64]
  congr 2
  rw [Nat.testBit,Nat.shiftRight_eq_div_pow,Nat.and_comm,Nat.and_one_is_mod]
  rw [show ((n:Int)/2 ^ (8 - k))=((n/2 ^ (8 - k):Nat):Int) by simp]
  generalize n/2 ^ (8 - k)=m
  rcases Nat.mod_two_eq_zero_or_one m with h|h
  · rw [h,show ((m:Int) % 2)=0 by omega];rfl
  · rw [h,show ((m:Int) % 2)=1 by omega];rfl
theorem symBit_calls (x l:Int) (w:World):Calls Tryz.prog 230 #[.int .i64 x, .int .i64 l] w fun e w'=>e= .returned (.bool (symBit x l))∧w=w':=by
  by_cases h:x<0∨257≤x∨l<0∨9≤l
  · have e : symBit x l = false := by
      unfold symBit
      rcases h with h|h|h|h
      · rw [show decide (0≤x)=false by simpa using h];simp
      · rw [show decide (x<257)=false by simpa using h];simp
      · rw [show decide (0≤l)=false by simpa using h];simp
      · rw [show decide (l<9)=false by simpa using h];simp
    rw [e];exact symBit_out x l h w
  · obtain ⟨n,rfl⟩:=Int.eq_ofNat_of_zero_le (show 0≤x by omega)
    obtain ⟨k,rfl⟩:=Int.eq_ofNat_of_zero_le (show 0≤l by omega)
    have e:symBit n k=n.testBit (8 - k):=by
      unfold symBit
      rw [show decide ((n:Int)<257)=true by simp;omega,show decide ((k:Int)<9)=true by simp;omega,show (8 - (k:Int)).toNat=8 - k by omega]
      simp
    rw [e];exact symBit_in n k (by omega) (by omega) w
end
section
open Go.RowKit
theorem wt_of_own {w:World} {base:Nat} {v:Value} {l:List Nat} (h:w.ownsRow base 3 1 v l.length (l.map fun n:Nat=>Value.int .i64 (n:Int))):Wt w v l:=by
  rcases h.2 with ⟨rfl,h0⟩|⟨g,cap,cur,rfl,hg,hc,hn,hm,hsz,hx⟩
  · exact .inl ⟨rfl,List.eq_nil_of_length_eq_zero h0⟩
  · refine .inr ⟨g,0,cap,cur,rfl,hc,hn,by omega,by omega,fun i hi=> ?_⟩
    have:=congrArg (·[i]?) hx
    simp only [Nat.mul_one,List.getElem?_take_of_lt hi,List.getElem?_map,List.getElem?_eq_getElem hi,Option.map_some] at this
    simpa using this
structure WaitStep (w:World) (wv:Value) (l:List Nat) (w':World) (wv':Value):Prop where
  wt:Wt w' wv' l
  os:w'.os=w.os
  tape:w'.tape=w.tape
  output:w'.output=w.output
  size:w.heap.size≤w'.heap.size
  block: ∀b,b<w.heap.size→wv.ownBlock≠some b→w'.heap[b]? =w.heap[b]?
  own: ∀b,wv'.ownBlock=some b→wv.ownBlock=some b∨w.heap.size≤b
theorem wpList_wait {P : Program} (w : World) {ops : Array Oper} {rest : List Oper} {o : Oper} {a : Act} {Q : Exit → Act → World → Prop} (hgd : o.guard = none) (s x : Operand) (t : TypeId)
    (hop:o.op=Op.call {callee:=Callee.builtin Builtin.append,args:= #[s,x],argTypes:= #[t,t]}) (ht:P.underlying t=some (.slice 3))
    (hi:(P.info? 3).map (fun i=>(i.zero,i.size,i.bytes))=some (some (.int .i64 0),1,8)) (wv:Value) (l:List Nat) (h:Nat) (hs:a.eval s=wv) (hw:Wt w wv l)
    (n:Nat) (hn:n=w.heap.size) (hx:a.eval x= .slice (some ⟨n,0,none⟩) 1 1) (hl:l.length≤60000)
    (hk: ∀A n c w',WaitStep w wv (l++[h]) w' (.slice A n c)→wpList P ops Q rest (a.put o.dst (.slice A n c)) w'):
    wpList P ops Q (o::rest) a (w.alloc (.cells #[.int .i64 (h:Int)] 3)):=by
  subst hn
  replace hk: ∀wv' w',WaitStep w wv (l++[h]) w' wv'→wpList P ops Q rest (a.put o.dst wv') w':=by
    intro wv' w' hst
    rcases hst.wt with ⟨rfl,_⟩|⟨g,off,cap,c,rfl,_⟩
    · exact hk _ _ _ _ hst
    · exact hk _ _ _ _ hst
  obtain ⟨i0,hi0,hz0,hz1,hz2⟩:=info_parts hi
  have hnews: ∀j u,[Value.int .i64 (h:Int)][j]? =some u→(w.alloc (.cells #[.int .i64 (h:Int)] 3)).cell? ((⟨w.heap.size,0,none⟩:Addr).add j)=some u:=by
    intro j u hu
    rw [show (⟨w.heap.size,0,none⟩:Addr).add j=⟨w.heap.size,j,none⟩ by unfold Addr.add;split<;>simp_all,cells_of (blk_new w _ w.heap.size rfl) j]
    simpa using hu
  have fin: ∀v' w',w'.ownsRow (w.alloc (.cells #[.int .i64 (h:Int)] 3)).heap.size 3 1 v' (l.length+1) ((l.map fun n:Nat=>Value.int .i64 (n:Int))++[.int .i64 (h:Int)])→(w.alloc (.cells #[.int .i64 (h:Int)] 3)).grownBy w' none→WaitStep w wv (l++[h]) w' v':=by
    intro v' w' hown hg
    refine ⟨wt_of_own (base:=(w.alloc (.cells #[.int .i64 (h:Int)] 3)).heap.size) (by simpa using hown),hg.os,hg.tape,hg.output,by have:=hg.size;simp at this;omega,fun b hb _=> ?_,fun b hb=> .inr ?_⟩
    · rw [hg.block b (by simp;omega) (by simp),blk_old _ _ _ hb]
    · rcases hown.2 with ⟨_,h0⟩|⟨g,cap,cur,rfl,hge,_⟩
      · omega
      · simp [Value.ownBlock] at hb;simp at hge;omega
  rcases hw with ⟨rfl,rfl⟩|⟨g,off,cap,c,rfl,hg,hlc,hoc,hom,hcell⟩
  · refine wpList_append_grows _ hgd s x t hop 3 i0 _ 1 8 ht hi0 hz0 hz1 hz2 rfl (by omega) none 0 0 [] hs (fun _=>⟨rfl,rfl⟩) rfl (fun _ h=>by cases h) ⟨w.heap.size,0,none⟩ 1 1 [.int .i64 (h:Int)] hx rfl hnews (by simp [Value.oneCell']) (by omega) (by simp [maxLen]) (by omega) ?_
    intro v' w' hown hgr
    exact hk v' w' (fin v' w' (by simpa using hown) hgr)
  · have hgl:=lt_of hg
    have hg':(w.alloc (.cells #[.int .i64 (h:Int)] 3)).heap[g]? =some (.cells c 3 (0,0)):=by rw [blk_old _ _ _ hgl];exact hg
    refine wpList_append_arg _ hgd s x t hop 3 i0 _ 1 8 ht hi0 hz0 hz1 hz2 rfl (by omega) g off l.length cap (l.map fun n:Nat=>Value.int .i64 (n:Int)) hs (by simp) ?_ ⟨w.heap.size,0,none⟩ 1 1 [.int .i64 (h:Int)] hx rfl hnews (by simp [Value.oneCell']) ?_ (by unfold maxLen;omega) (by omega) ?_ ?_
    · intro j u hu
      rw [cells_of hg']
      simp only [List.getElem?_map,Option.map_eq_some_iff] at hu
      obtain ⟨n,hn,rfl⟩:=hu
      obtain ⟨hj,rfl⟩:=List.getElem?_eq_some_iff.1 hn
      exact hcell j hj
    · intro hr j hj
      simp at hj
      subst hj
      rw [cells_of hg',free_of hg']
      refine ⟨?_,rfl⟩
      rw [Array.getElem?_eq_getElem (show off+l.length*1+0<c.size by omega)];rfl
    · intro hr
      refine hk _ _ ⟨.inr ⟨g,off,cap,c.setIfInBounds (off+l.length) (.int .i64 (h:Int)),by simp,?_,by simp;omega,by simpa using hoc,hom,fun i hi=> ?_⟩,rfl,rfl,rfl,?_,fun b hb hne=> ?_,fun b hb=> .inl hb⟩
      · simp only [World.setCells,Nat.mul_one]
        rw [blk_set,hg',Option.map_some,setAt_cells]
      · simp at hi
        by_cases h1:i=l.length
        · subst h1
          rw [Array.getElem?_setIfInBounds_self_of_lt (by omega)];simp
        · rw [Array.getElem?_setIfInBounds_ne (by omega),hcell i (by omega),List.getElem_append_left (by omega)]
      · simp only [World.setCells];rw [siz_set];simp
      · simp only [World.setCells]
        rw [blk_far _ _ _ _ (fun e=>hne (by rw [e];rfl)),blk_old _ _ _ hb]
    · intro hfull v' w' hown hgr
      exact hk v' w' (fin v' w' hown hgr)
end
section
open Go.RowKit
attribute [local go_sem ↓] Go.wp_at_zero Go.wp_at_succ
attribute [local go_sem] lt_s2 lt_s3 lt_s4
variable {ap : Value} {s : Ar} {O : Nat → Prop}
def Did (X:Nat→Prop) (ap:Value) (s':Ar) (O:Nat→Prop) (w w':World):Prop:= ∃O',AP w' ap s' O'∧Fr X O O' w w'
theorem wC {P:Program} {f:FuncId} {args:Array Value} {w:World} {R:Ending→World→Prop} {v:Value} {X O:Nat→Prop} {ap:Value} {s':Ar} (hc:Calls P f args w fun e w'=>e= .returned v∧Did X ap s' O w w') (h: ∀w' O',AP w' ap s' O'→Fr X O O' w w'→R (.returned v) w'):Calls P f args w R:=hc.mono fun _ w' ⟨he,O',h1,h2⟩=>by subst he;exact h w' O' h1 h2
theorem Did.refl {X:Nat→Prop} {w:World} (h:AP w ap s O):Did X ap s O w w:=⟨O,h,Fr.refl _ _ _⟩
theorem keep_yes (h : Nat) (h1 : 1 ≤ h) (h2 : h ≤ s.size) (hc : s.cnt h ≠ 0) (w : World) (hA : AP w ap s O) :
    Calls Tryz.prog 146 #[ap, .int .i64 (h:Int)] w fun e w'=>e= .returned (.int .i64 0)∧Did noX ap (s.keep h) O w w':=by
  have d1:(s.cnt (h:Int)==0)=false:=by simpa using hc
  have d3:(h:Int)<(s.size:Int)+1:=by omega
  have d4:(0:Int)≤(h:Int):=by omega
  obtain ⟨p,nb,cb,ub,wv,rfl,hR⟩:=hA.raw (by omega)
  have cp:=hR.reads.cp
  have cc:=hR.reads.cc h h2
  have hs:=hA.1.small
  have fc:=free_of hR.hc
  have hR':=hR.setC h (.int .i64 (wrap64 (s.count h+1)))
  have hW:=hA.1.keep (h:Int)
  have hk:Hid (s.keep (h:Int)={s with count:=upd s.count h (wrap64 (s.count h+1))}):=by
    show _=_
    unfold Ar.keep;rw [if_neg hc,Ar.cnt_nat h1 h2];rfl
  have HR:=Lib.hid hR;clear hR
  have HR':=Lib.hid hR';clear hR'
  clear hc
  go_enter Tryz.func146,Tryz.ntmps146
  go_wp2_with fail
  refine (count_calls _ _ hA).mono ?_
  rintro e w1 ⟨rfl,rfl⟩
  clear hA
  go_wp2_with fail
  go_ret
  refine ⟨rfl,O,?_,?_⟩
  · rw [hk.out] at hW⊢
    refine AP.of_raw (HR'.out.congr (fun _ _=>rfl) (fun i _=> ?_) (fun _ _=>rfl)) hW
    unfold updF countF upd
    split<;>simp_all
  · exact Fr.own_step HR.out HR'.out rfl rfl rfl (by rw [siz_set];exact Nat.le_refl _) (fun x _ hx=>blk_far _ _ _ _ (fun e=>hx (e▸HR.out.oc))) (fun x hx=> .inl hx)
theorem keep_no (h : Int) (hc : s.cnt h = 0) (w : World) (hA : AP w ap s O) :
    Calls Tryz.prog 146 #[ap, .int .i64 h] w fun e w'=>e= .returned (.int .i64 9)∧w=w':=by
  have d1:(s.cnt (h:Int)==0)=true:=by rw [hc];rfl
  clear hc
  go_enter Tryz.func146,Tryz.ntmps146
  go_wp2_with fail
  refine (count_calls _ _ hA).mono ?_
  rintro e w1 ⟨rfl,rfl⟩
  go_wp2_with fail
  go_ret
  exact ⟨rfl,rfl⟩
theorem keep_calls (h : Int) (w : World) (hA : AP w ap s O) :
    Calls Tryz.prog 146 #[ap, .int .i64 h] w fun e w'=>e= .returned (.int .i64 (s.cntE h))∧Did noX ap (s.keep h) O w w':=by
  by_cases hc:s.cnt h=0
  · refine (keep_no h hc w hA).mono ?_
    rintro e w1 ⟨rfl,rfl⟩
    unfold Ar.cntE Ar.keep;rw [if_pos hc,if_pos hc];exact ⟨rfl,Did.refl hA⟩
  · unfold Ar.cntE;rw [if_neg hc]
    obtain ⟨n,rfl,h1,h2, -⟩:=Ar.cnt_pos hc
    exact keep_yes n h1 h2 hc w hA
theorem drop_no (h : Int) (hc : s.cnt h = 0) (w : World) (hA : AP w ap s O) :
    Calls Tryz.prog 36 #[ap, .int .i64 h] w fun e w'=>e= .returned (.int .i64 9)∧w=w':=by
  have d1:(s.cnt (h:Int)==0)=true:=by rw [hc];rfl
  clear hc
  go_enter Tryz.func36,Tryz.ntmps36
  go_wp2_with fail
  refine (count_calls _ _ hA).mono ?_
  rintro e w1 ⟨rfl,rfl⟩
  go_wp2_with fail
  go_ret
  exact ⟨rfl,rfl⟩
theorem drop_more (h : Nat) (h1 : 1 ≤ h) (h2 : h ≤ s.size) (hc : s.cnt h ≠ 0) (hz : wrap64 (s.count h - 1) ≠ 0) (w : World) (hA : AP w ap s O) :
    Calls Tryz.prog 36 #[ap, .int .i64 (h:Int)] w fun e w'=>e= .returned (.int .i64 0)∧Did noX ap (s.drop h) O w w':=by
  have d1:(s.cnt (h:Int)==0)=false:=by simpa using hc
  have d2:(wrap64 (s.count h - 1)==0)=false:=by simpa using hz
  have d3:(h:Int)<(s.size:Int)+1:=by omega
  have d4:(0:Int)≤(h:Int):=by omega
  obtain ⟨p,nb,cb,ub,wv,rfl,hR⟩:=hA.raw (by omega)
  have cp:=hR.reads.cp
  have cc:=hR.reads.cc h h2
  have hs:=hA.1.small
  have fc:=free_of hR.hc
  have hpc:=hR.pc
  have hR':=hR.setC h (.int .i64 (wrap64 (s.count h - 1)))
  have hW:=hA.1.drop (h:Int)
  have hk:Hid (s.drop (h:Int)={s with count:=upd s.count h (wrap64 (s.count h - 1))}):=by
    show _=_
    unfold Ar.drop;rw [if_neg hc,Ar.cnt_nat h1 h2,if_neg hz];rfl
  have HR:=Lib.hid hR;clear hR
  have HR':=Lib.hid hR';clear hR'
  clear hc hz
  go_enter Tryz.func36,Tryz.ntmps36
  go_wp2_with fail
  refine (count_calls _ _ hA).mono ?_
  rintro e w1 ⟨rfl,rfl⟩
  clear hA
  go_wp2_with fail
  go_ret
  refine ⟨rfl,O,?_,?_⟩
  · rw [hk.out] at hW⊢
    refine AP.of_raw (HR'.out.congr (fun _ _=>rfl) (fun i _=> ?_) (fun _ _=>rfl)) hW
    unfold updF countF upd
    dsimp only
    split<;>simp_all
  · exact Fr.own_step HR.out HR'.out rfl rfl rfl (by rw [siz_set];exact Nat.le_refl _) (fun x _ hx=>blk_far _ _ _ _ (fun e=>hx (e▸HR.out.oc))) (fun x hx=> .inl hx)
theorem drop_last (h : Nat) (h1 : 1 ≤ h) (h2 : h ≤ s.size) (hc : s.cnt h ≠ 0) (hz : wrap64 (s.count h - 1) = 0) (w : World) (hA : AP w ap s O) :
    Calls Tryz.prog 36 #[ap, .int .i64 (h:Int)] w fun e w'=>e= .returned (.int .i64 0)∧Did noX ap (s.drop h) O w w':=by
  have d1:(s.cnt (h:Int)==0)=false:=by simpa using hc
  have d2:(wrap64 (s.count h - 1)==0)=true:=by simpa using hz
  have d3:(h:Int)<(s.size:Int)+1:=by omega
  have d4:(0:Int)≤(h:Int):=by omega
  obtain ⟨p,nb,cb,ub,wv,rfl,hR⟩:=hA.raw (by omega)
  have cp:=hR.reads.cp
  have cc:=hR.reads.cc h h2
  have hs:=hA.1.small
  have hl:=hA.1.length
  have fc:=free_of hR.hc
  have fp:=free_of hR.hp
  have hpc:=hR.pc
  have hR':=hR.setC h (.int .i64 (wrap64 (s.count h - 1)))
  have hW:=hA.1.drop (h:Int)
  have hk:Hid (s.drop (h:Int)={s with count:=upd s.count h (wrap64 (s.count h - 1)),wait:=s.wait++[h]}):=by
    show _=_
    unfold Ar.drop;rw [if_neg hc,Ar.cnt_nat h1 h2,if_pos hz];rfl
  have HR:=Lib.hid hR;clear hR
  have HR':=Lib.hid hR';clear hR'
  clear hc hz
  go_enter Tryz.func36,Tryz.ntmps36
  go_wp2_with fail
  refine (count_calls _ _ hA).mono ?_
  rintro e w1 ⟨rfl,rfl⟩
  clear hA
  go_wp2_with (at_builtin;refine wpList_wait _ (by rfl) _ _ 43 (by rfl) Tryz.underlying43 (by kernel_rfl) wv s.wait h (by rfl) HR'.out.hw w.heap.size (by rw [siz_set]) (by rfl) (by omega) ?_;intro A n c w2 hst;have hp2:=(hst.block p (by rw [siz_set];exact lt_of HR.out.hp) HR.out.wp).trans HR'.out.hp;have cp2:=cells_of hp2;have fp2:=free_of hp2;unfold ArC at cp2)
  go_ret
  have hR:=HR.out
  have hR1:=HR'.out
  have hncb:(Value.slice A n c).ownBlock≠some cb:=fun e=>by
    rcases hst.own _ e with g|g
    · exact hR.ncw g
    · have:=lt_of hR.hc;rw [siz_set] at g;omega
  have hnp:(Value.slice A n c).ownBlock≠some p:=fun e=>by
    rcases hst.own _ e with g|g
    · exact hR.wp g
    · have:=lt_of hR.hp;rw [siz_set] at g;omega
  have hb2: ∀x,O x→wv.ownBlock≠some x→w2.heap[x]? =(w.setCell ⟨cb,h,none⟩ (.int .i64 (wrap64 (s.count h - 1)))).heap[x]? :=fun x hx hne=>hst.block x (by rw [siz_set];exact hR.lt x hx) hne
  have hR2:Raw w2 p s.size nb cb ub wv (nodeF s) (updF (countF s) h (.int .i64 (wrap64 (s.count h - 1)))) (usedF s) s.busy s.made s.wait O→True:=fun _=>trivial
  clear hR2
  have hsz:=hst.size
  rw [siz_set] at hsz
  refine ⟨rfl,fun x=>O x∨(Value.slice A n c).ownBlock=some x,?_,?_⟩
  · rw [hk.out] at hW⊢
    refine AP.of_raw ⟨by rw [blk_set,hp2];rfl,?_,?_,?_,hst.wt.far hnp _,hncb, .inl hR.op, .inl hR.on, .inl hR.oc, .inl hR.ou,fun g hg=> .inr hg,fun b hb=> ?_⟩ hW
    · rw [blk_far _ _ _ _ (Ne.symm hR.pn),hb2 nb hR.on hR.wn];exact hR1.hn
    · rw [blk_far _ _ _ _ (Ne.symm hR.pc),hb2 cb hR.oc hR.ncw]
      rw [hR1.hc]
      congr 2
      refine ofF_congr fun i _=> ?_
      unfold updF countF upd
      dsimp only
      split<;>simp_all
    · rw [blk_far _ _ _ _ (Ne.symm hR.pu),hb2 ub hR.ou hR.wu];exact hR1.hu
    · rw [siz_set]
      rcases hb with hb|hb
      · exact Nat.lt_of_lt_of_le (hR.lt b hb) hsz
      · obtain ⟨c,hc⟩:=hst.wt.type hb
        exact lt_of hc
  · refine ⟨hst.os,hst.tape,hst.output,by rw [siz_set];exact hsz,fun x hx ho _=> ?_,fun x hx=> ?_⟩
    · have e1:x≠p:=fun e=>ho (e▸hR.op)
      have e2:x≠cb:=fun e=>ho (e▸hR.oc)
      rw [blk_far _ _ _ _ e1,hst.block x (by rw [siz_set];exact hx) (fun e=>ho (hR.ow x e)),blk_far _ _ _ _ e2]
    · rcases hx with hx|hx
      · exact .inl hx
      · rcases hst.own x hx with g|g
        · exact .inl (hR.ow x g)
        · rw [siz_set] at g;exact .inr g
theorem drop_calls (h : Int) (w : World) (hA : AP w ap s O) :
    Calls Tryz.prog 36 #[ap, .int .i64 h] w fun e w'=>e= .returned (.int .i64 (s.cntE h))∧Did noX ap (s.drop h) O w w':=by
  by_cases hc:s.cnt h=0
  · refine (drop_no h hc w hA).mono ?_
    rintro e w1 ⟨rfl,rfl⟩
    unfold Ar.cntE Ar.drop;rw [if_pos hc,if_pos hc];exact ⟨rfl,Did.refl hA⟩
  · unfold Ar.cntE;rw [if_neg hc]
    obtain ⟨n,rfl,h1,h2, -⟩:=Ar.cnt_pos hc
    by_cases hz:wrap64 (s.count n - 1)=0
    · exact drop_last n h1 h2 hc hz w hA
    · exact drop_more n h1 h2 hc hz w hA
end
section
open Go.RowKit
attribute [local go_sem ↓] Go.wp_at_zero Go.wp_at_succ
attribute [local go_sem] lt_s2 lt_s3 lt_s4
variable {ap : Value} {s : Ar} {O : Nat → Prop}
theorem freeFrom_at (used:Nat→Bool) (size k:Nat) (h:k≤size):freeFrom used size (size+1 - k) k=if used k then freeFrom used size (size+1 - (k+1)) (k+1) else (k:Int):=by
  rw [show size+1 - k=(size - k)+1 by omega,show size+1 - (k+1)=size - k by omega];rfl
theorem freeFrom_end (used:Nat→Bool) (size:Nat):freeFrom used size (size+1 - (size+1)) (size+1)=0:=by
  rw [Nat.sub_self];rfl
theorem free_calls (w : World) (hA : AP w ap s O) :
    Calls Tryz.prog 220 #[ap] w fun e w'=>e= .returned (.int .i64 s.free)∧w=w':=by
  have hs:=hA.1.small
  go_enter Tryz.func220,Tryz.ntmps220
  go_wp2_with fail
  go_loop [3] (fun h=> ∃k:Nat,1≤k∧k≤s.size+1∧h= .int .i64 k∧Hid (s.free=freeFrom s.used s.size (s.size+1 - k) k)) (fun h=>s.size+1 - (intOf h).toNat)
  case atStart=>exact ⟨1,by omega,by omega,rfl,Lib.hid rfl⟩
  case round=>
    obtain ⟨k,hk1,hk2,rfl,hk⟩:=hrel
    by_cases hlt:k≤s.size
    · have d1:decide ((k:Int)≤(s.size:Int))=true:=by simp;omega
      obtain ⟨p,nb,cb,ub,wv,rfl,hR⟩:=hA.raw (by omega)
      have cp:=hR.reads.cp
      have cu:=hR.reads.cu k hlt
      have d3:(k:Int)<(s.size:Int)+1:=by omega
      clear hR
      rw [freeFrom_at _ _ _ hlt] at hk
      by_cases hu:s.used k=true
      · rw [hu] at cu hk
        rw [if_pos rfl] at hk
        clear hu
        go_wp2_with fail
        refine (size_calls _ hA).mono ?_
        rintro e w1 ⟨rfl,rfl⟩
        go_wp2_with fail
        go_round
        case rel=>exact ⟨k+1,by omega,by omega,by go_num,hk⟩
        case measure=>simp [intOf];omega
      · rw [Bool.eq_false_iff.2 hu] at cu hk
        rw [if_neg (by decide)] at hk
        clear hu
        go_wp2_with fail
        refine (size_calls _ hA).mono ?_
        rintro e w1 ⟨rfl,rfl⟩
        go_wp2_with fail
        go_ret
        exact ⟨by rw [hk.out];rfl,rfl⟩
    · have d1:decide ((k:Int)≤(s.size:Int))=false:=by simp;omega
      obtain rfl:k=s.size+1:=by omega
      rw [freeFrom_end] at hk
      go_wp2_with fail
      refine (size_calls _ hA).mono ?_
      rintro e w1 ⟨rfl,rfl⟩
      go_wp2_with fail
      go_ret
      exact ⟨by rw [hk.out];rfl,rfl⟩
theorem bad_take (s:Ar) (l:List Int) (i:Nat) (hi:i<l.length):s.bad (l.take (i+1))=(s.bad (l.take i)||(l[i] !=0&&s.cnt l[i]==0)):=by
  unfold Ar.bad
  rw [List.take_succ_eq_append_getElem hi,List.any_append];simp
theorem make_tag (n : Nd) (ht : n.tag < 1 ∨ 6 < n.tag) (w : World) (hA : AP w ap s O) :
    Calls Tryz.prog 125 #[ap,n.val] w fun e w'=>e= .returned (.tuple #[.int .i64 0, .int .i64 1])∧Below w.heap.size w w':=by
  unfold Nd.val
  rcases ht with ht|ht
  · have d1:decide (n.tag<1)=true:=by simpa using ht
    go_enter Tryz.func125,Tryz.ntmps125
    go_wp2_with fail
    go_ret2
    refine ⟨rfl,?_⟩
    (repeat' first|with_reducible assumption|with_reducible exact Below.refl _ _|with_reducible refine Below.alloc ?_ ?_ _|with_reducible refine Below.setCell ?_ ?_ _|with_reducible refine below_drewN ?_ _|with_reducible refine Below.drew ?_|exact Nat.le_refl _|((try dsimp only);omega)|(simp only [siz_alloc,siz_set];omega))
  · have d1:decide (n.tag<1)=false:=by simp;omega
    have d2:decide (6<n.tag)=true:=by simpa using ht
    go_enter Tryz.func125,Tryz.ntmps125
    go_wp2_with fail
    go_ret2
    refine ⟨rfl,?_⟩
    (repeat' first|with_reducible assumption|with_reducible exact Below.refl _ _|with_reducible refine Below.alloc ?_ ?_ _|with_reducible refine Below.setCell ?_ ?_ _|with_reducible refine below_drewN ?_ _|with_reducible refine Below.drew ?_|exact Nat.le_refl _|((try dsimp only);omega)|(simp only [siz_alloc,siz_set];omega))
theorem idx0 (a b c d:Int) (w:World):(Instr.index 169 (.agg #[.int .i64 a, .int .i64 b, .int .i64 c, .int .i64 d]) (.int .i64 0)).run Tryz.prog w= .ok (.int .i64 a) w:=by kernel_rfl
theorem idx1 (a b c d:Int) (w:World):(Instr.index 169 (.agg #[.int .i64 a, .int .i64 b, .int .i64 c, .int .i64 d]) (.int .i64 1)).run Tryz.prog w= .ok (.int .i64 b) w:=by kernel_rfl
theorem idx2 (a b c d:Int) (w:World):(Instr.index 169 (.agg #[.int .i64 a, .int .i64 b, .int .i64 c, .int .i64 d]) (.int .i64 2)).run Tryz.prog w= .ok (.int .i64 c) w:=by kernel_rfl
theorem idx3 (a b c d:Int) (w:World):(Instr.index 169 (.agg #[.int .i64 a, .int .i64 b, .int .i64 c, .int .i64 d]) (.int .i64 3)).run Tryz.prog w= .ok (.int .i64 d) w:=by kernel_rfl
attribute [local go_sem] idx0 idx1 idx2 idx3
theorem make_bad {s:Ar} {n:Nd} (h1:1≤n.tag) (h2:n.tag≤6) (hb:s.bad n.kids=true):s.make n=(0,9,s):=by
  unfold Ar.make;rw [if_neg (by omega),if_pos hb]
theorem make_full {s:Ar} {n:Nd} (h1:1≤n.tag) (h2:n.tag≤6) (hb:s.bad n.kids=false) (hf:s.free=0):s.make n=(0,2,s):=by
  unfold Ar.make;rw [if_neg (by omega),if_neg (by simp [hb]),if_pos hf]
theorem make_done {s : Ar} {n : Nd} {f : Nat} (h1 : 1 ≤ n.tag) (h2 : n.tag ≤ 6) (hb : s.bad n.kids = false) (hf : s.free = f) (h : 1 ≤ f) :
    s.make n=((f:Int),0,{s with node:=upd s.node f n,count:=upd (incAll s.count n.kids) f 1,used:=upd s.used f true,busy:=wrap64 (s.busy+1),made:=wrap64 (s.made+1)}):=by
  unfold Ar.make;rw [if_neg (by omega),if_neg (by simp [hb]),hf,if_neg (by omega)];rfl
structure MakeAt (w wr:World) (p:Nat) (s:Ar) (nb cb ub:Nat) (wv:Value) (O:Nat→Prop) (n:Nd) (i:Nat):Prop where
  raw:RawS wr p {s with count:=incAll s.count (n.kids.take i)} nb cb ub wv O
  blk:wr.heap[w.heap.size]? =some (.cells n.cells 171 (0,0))
  fr:Fr noX O O w wr
  no: ¬O w.heap.size
theorem incAll_append (c:Nat→Int) (l m:List Int):incAll c (l++m)=incAll (incAll c l) m:=by
  induction l generalizing c with
  | nil=>rfl
  | cons k l ih=>exact ih _
section
variable {w wr : World} {p : Nat} {nb cb ub : Nat} {wv : Value} {n : Nd} {i : Nat}
theorem MakeAt.cp (h:MakeAt w wr p s nb cb ub wv O n i): ∀o,wr.cell? ⟨p,o,none⟩= #[.slice (some ⟨nb,0,none⟩) (s.size+1) (s.size+1), .slice (some ⟨cb,0,none⟩) (s.size+1) (s.size+1), .slice (some ⟨ub,0,none⟩) (s.size+1) (s.size+1),wv, .int .i64 s.busy, .int .i64 s.made][o]? :=h.raw.reads.cp
theorem MakeAt.cc (h : MakeAt w wr p s nb cb ub wv O n i) (m : Nat) (hm : m ≤ s.size) :
    ∃c,wr.cell? ⟨cb,m,none⟩=some (.int .i64 c)∧ ∀k,n.kids[i]? =some k→k≠0→k=m→MakeAt w (wr.setCell ⟨cb,m,none⟩ (.int .i64 (wrap64 (c+1)))) p s nb cb ub wv O n (i+1):=by
  refine ⟨_,h.raw.reads.cc m hm,fun k hk hk0 hkm=>⟨?_,?_,?_,?_⟩⟩
  · refine (h.raw.setC m _).congr (fun _ _=>rfl) (fun j _=> ?_) (fun _ _=>rfl)
    obtain ⟨hl,hk⟩:=List.getElem?_eq_some_iff.1 hk
    unfold updF countF
    rw [List.take_succ_eq_append_getElem hl,incAll_append]
    simp only [incAll,hk]
    rw [if_neg hk0,hkm,Int.toNat_natCast]
    unfold upd
    split<;>rfl
  · have hne:w.heap.size≠cb:=fun e=>h.no (by rw [e];exact h.raw.oc)
    rw [blk_far _ _ _ _ hne];exact h.blk
  · exact ⟨h.fr.os, h.fr.tape, h.fr.output, by rw [siz_set]; exact h.fr.size, fun x hx ho hX => by
      have hne:x≠cb:=fun e=>ho (by rw [e];exact h.raw.oc)
      rw [blk_far _ _ _ _ hne];exact h.fr.block x hx ho hX,h.fr.own⟩
  · exact h.no
theorem MakeAt.skip (h:MakeAt w wr p s nb cb ub wv O n i) (k:Int) (hk:n.kids[i]? =some k) (hz:k=0):MakeAt w wr p s nb cb ub wv O n (i+1):=by
  refine ⟨h.raw.congr (fun _ _=>rfl) (fun j _=> ?_) (fun _ _=>rfl),h.blk,h.fr,h.no⟩
  obtain ⟨hl,hk⟩:=List.getElem?_eq_some_iff.1 hk
  unfold countF
  rw [List.take_succ_eq_append_getElem hl,incAll_append]
  simp only [incAll,hk]
  rw [if_pos hz]
end
theorem make_calls0 (n : Nd) (h1 : 1 ≤ n.tag) (h2 : n.tag ≤ 6) (hn : U64 n.a) (w : World) (hA : AP w ap s O) :
    Calls Tryz.prog 125 #[ap,n.val] w fun e w'=>e= .returned (.tuple #[.int .i64 (s.make n).1, .int .i64 (s.make n).2.1])∧Did noX ap (s.make n).2.2 O w w':=by
  unfold Nd.val
  have d1:decide (n.tag<1)=false:=by simp;omega
  have d2:decide (6<n.tag)=false:=by simp;omega
  go_enter Tryz.func125,Tryz.ntmps125
  go_wp2_with fail
  go_loopw [21] (fun x wr=> ∃i:Nat,i≤4∧x= .int .i64 i∧s.bad (n.kids.take i)=false∧wr=w.alloc (.cells #[.int .i64 n.tag, .int .i64 n.k0, .int .i64 n.k1, .int .i64 n.k2, .int .i64 n.k3, .int .u64 n.a, .int .u64 n.b] 171 (0,0))) (fun x _=>4 - (intOf x).toNat)
  case atStart=>exact ⟨0,by omega,rfl,rfl,rfl⟩
  case round=>
    obtain ⟨i,hi,rfl,hbi,rfl⟩:=hrel
    rcases (show i=0∨i=1∨i=2∨i=3∨i=4 by omega) with rfl|rfl|rfl|rfl|rfl
    · by_cases hz:n.k0=0
      · have d5:(n.k0 !=0)=false:=by simp [hz]
        have hbi':s.bad (n.kids.take 1)=false:=by rw [bad_take s n.kids 0 (by simp [Nd.kids]),hbi];simp [Nd.kids,hz]
        clear hz
        go_wp2_with fail
        go_roundw
        case rel=>exact ⟨1,by omega,rfl,hbi',trivial⟩
        case measure=>simp [intOf]
      · have d5:(n.k0 !=0)=true:=by simp [hz]
        by_cases hc:s.cnt n.k0=0
        · have d6:(s.cnt n.k0==0)=true:=by simp [hc]
          have hbad:s.bad n.kids=true:=by
            unfold Ar.bad;rw [List.any_eq_true];exact ⟨n.k0,by simp [Nd.kids],by simp [hz,hc]⟩
          clear hz hc
          go_wp2_with fail
          refine (count_calls _ _ (hA.alloc _)).mono ?_
          rintro e w1 ⟨rfl,rfl⟩
          go_wp2_with fail
          go_ret2
          exact ⟨by rw [make_bad h1 h2 hbad];rfl,by rw [make_bad h1 h2 hbad];exact ⟨O,hA.alloc _,(Fr.refl _ _ _).alloc _⟩⟩
        · have d6:(s.cnt n.k0==0)=false:=by simp [hc]
          have hbi':s.bad (n.kids.take 1)=false:=by rw [bad_take s n.kids 0 (by simp [Nd.kids]),hbi];simp [Nd.kids,hc]
          clear hz hc
          go_wp2_with fail
          refine (count_calls _ _ (hA.alloc _)).mono ?_
          rintro e w1 ⟨rfl,rfl⟩
          go_wp2_with fail
          go_roundw
          case rel=>exact ⟨1,by omega,rfl,hbi',trivial⟩
          case measure=>simp [intOf]
    · by_cases hz:n.k1=0
      · have d5:(n.k1 !=0)=false:=by simp [hz]
        have hbi':s.bad (n.kids.take 2)=false:=by rw [bad_take s n.kids 1 (by simp [Nd.kids]),hbi];simp [Nd.kids,hz]
        clear hz
        go_wp2_with fail
        go_roundw
        case rel=>exact ⟨2,by omega,rfl,hbi',trivial⟩
        case measure=>simp [intOf]
      · have d5:(n.k1 !=0)=true:=by simp [hz]
        by_cases hc:s.cnt n.k1=0
        · have d6:(s.cnt n.k1==0)=true:=by simp [hc]
          have hbad:s.bad n.kids=true:=by
            unfold Ar.bad;rw [List.any_eq_true];exact ⟨n.k1,by simp [Nd.kids],by simp [hz,hc]⟩
          clear hz hc
          go_wp2_with fail
          refine (count_calls _ _ (hA.alloc _)).mono ?_
          rintro e w1 ⟨rfl,rfl⟩
          go_wp2_with fail
          go_ret2
          exact ⟨by rw [make_bad h1 h2 hbad];rfl,by rw [make_bad h1 h2 hbad];exact ⟨O,hA.alloc _,(Fr.refl _ _ _).alloc _⟩⟩
        · have d6:(s.cnt n.k1==0)=false:=by simp [hc]
          have hbi':s.bad (n.kids.take 2)=false:=by rw [bad_take s n.kids 1 (by simp [Nd.kids]),hbi];simp [Nd.kids,hc]
          clear hz hc
          go_wp2_with fail
          refine (count_calls _ _ (hA.alloc _)).mono ?_
          rintro e w1 ⟨rfl,rfl⟩
          go_wp2_with fail
          go_roundw
          case rel=>exact ⟨2,by omega,rfl,hbi',trivial⟩
          case measure=>simp [intOf]
    · by_cases hz:n.k2=0
      · have d5:(n.k2 !=0)=false:=by simp [hz]
        have hbi':s.bad (n.kids.take 3)=false:=by rw [bad_take s n.kids 2 (by simp [Nd.kids]),hbi];simp [Nd.kids,hz]
        clear hz
        go_wp2_with fail
        go_roundw
        case rel=>exact ⟨3,by omega,rfl,hbi',trivial⟩
        case measure=>simp [intOf]
      · have d5:(n.k2 !=0)=true:=by simp [hz]
        by_cases hc:s.cnt n.k2=0
        · have d6:(s.cnt n.k2==0)=true:=by simp [hc]
          have hbad:s.bad n.kids=true:=by
            unfold Ar.bad;rw [List.any_eq_true];exact ⟨n.k2,by simp [Nd.kids],by simp [hz,hc]⟩
          clear hz hc
          go_wp2_with fail
          refine (count_calls _ _ (hA.alloc _)).mono ?_
          rintro e w1 ⟨rfl,rfl⟩
          go_wp2_with fail
          go_ret2
          exact ⟨by rw [make_bad h1 h2 hbad];rfl,by rw [make_bad h1 h2 hbad];exact ⟨O,hA.alloc _,(Fr.refl _ _ _).alloc _⟩⟩
        · have d6:(s.cnt n.k2==0)=false:=by simp [hc]
          have hbi':s.bad (n.kids.take 3)=false:=by rw [bad_take s n.kids 2 (by simp [Nd.kids]),hbi];simp [Nd.kids,hc]
          clear hz hc
          go_wp2_with fail
          refine (count_calls _ _ (hA.alloc _)).mono ?_
          rintro e w1 ⟨rfl,rfl⟩
          go_wp2_with fail
          go_roundw
          case rel=>exact ⟨3,by omega,rfl,hbi',trivial⟩
          case measure=>simp [intOf]
    · by_cases hz:n.k3=0
      · have d5:(n.k3 !=0)=false:=by simp [hz]
        have hbi':s.bad (n.kids.take 4)=false:=by rw [bad_take s n.kids 3 (by simp [Nd.kids]),hbi];simp [Nd.kids,hz]
        clear hz
        go_wp2_with fail
        go_roundw
        case rel=>exact ⟨4,by omega,rfl,hbi',trivial⟩
        case measure=>simp [intOf]
      · have d5:(n.k3 !=0)=true:=by simp [hz]
        by_cases hc:s.cnt n.k3=0
        · have d6:(s.cnt n.k3==0)=true:=by simp [hc]
          have hbad:s.bad n.kids=true:=by
            unfold Ar.bad;rw [List.any_eq_true];exact ⟨n.k3,by simp [Nd.kids],by simp [hz,hc]⟩
          clear hz hc
          go_wp2_with fail
          refine (count_calls _ _ (hA.alloc _)).mono ?_
          rintro e w1 ⟨rfl,rfl⟩
          go_wp2_with fail
          go_ret2
          exact ⟨by rw [make_bad h1 h2 hbad];rfl,by rw [make_bad h1 h2 hbad];exact ⟨O,hA.alloc _,(Fr.refl _ _ _).alloc _⟩⟩
        · have d6:(s.cnt n.k3==0)=false:=by simp [hc]
          have hbi':s.bad (n.kids.take 4)=false:=by rw [bad_take s n.kids 3 (by simp [Nd.kids]),hbi];simp [Nd.kids,hc]
          clear hz hc
          go_wp2_with fail
          refine (count_calls _ _ (hA.alloc _)).mono ?_
          rintro e w1 ⟨rfl,rfl⟩
          go_wp2_with fail
          go_roundw
          case rel=>exact ⟨4,by omega,rfl,hbi',trivial⟩
          case measure=>simp [intOf]
    · have hbad:s.bad n.kids=false:=hbi
      clear hbi
      by_cases hf:s.free=0
      · have d7:(s.free==0)=true:=by simp [hf]
        have hm:=Lib.hid (make_full h1 h2 hbad hf)
        clear hf hbad
        go_wp2_with fail
        refine (free_calls _ (hA.alloc _)).mono ?_
        rintro e w1 ⟨rfl,rfl⟩
        go_wp2_with fail
        go_ret2
        exact ⟨by rw [hm.out];rfl,by rw [hm.out];exact ⟨O,hA.alloc _,(Fr.refl _ _ _).alloc _⟩⟩
      · have d7:(s.free==0)=false:=by simp [hf]
        go_wp2_with fail
        refine (free_calls _ (hA.alloc _)).mono ?_
        rintro e w1 ⟨rfl,rfl⟩
        obtain ⟨f,hf1,hf2,hf3,hf4⟩:=Ar.free_spec hf
        rw [hf1] at d7⊢
        have hk: ∀k∈n.kids,k≠0→s.cnt k≠0:=fun k hk hk0 hc=>by
          have:s.bad n.kids=true:=by unfold Ar.bad;rw [List.any_eq_true];exact ⟨k,hk,by simp [hk0,hc]⟩
          rw [this] at hbad;cases hbad
        have HM:=Lib.hid (make_done h1 h2 hbad hf1 hf2)
        clear hf hf1 hbad hf4
        have HK:=Lib.hid hk;clear hk
        obtain ⟨p,nb,cb,ub,wv,rfl,hR⟩:=hA.raw (by omega)
        have hs:=hA.1.small
        have hl1:=lt_of hR.hp;have hl2:=lt_of hR.hn;have hl3:=lt_of hR.hc;have hl4:=lt_of hR.hu
        have hnO:=hA.new (Nat.le_refl _)
        have hW:=hA.1.make n hn
        rw [HM.out] at hW
        have HW:=Lib.hid hW;clear hW
        obtain ⟨tag,k0,k1,k2,k3,a,b⟩:=n
        dsimp only at*
        go_wp2_with fail
        go_loopw [39] (fun x wr=> ∃i:Nat,i≤4∧x= .int .i64 i∧MakeAt w wr p s nb cb ub wv O ⟨tag,k0,k1,k2,k3,a,b⟩ i) (fun x _=>4 - (intOf x).toNat)
        case atStart=>exact ⟨0,by omega,rfl,hR.alloc _,blk_new _ _ _ rfl,(Fr.refl _ _ _).alloc _,hnO⟩
        case round=>
          obtain ⟨i,hi,rfl,hM⟩:=hrel
          rcases (show i=0∨i=1∨i=2∨i=3∨i=4 by omega) with rfl|rfl|rfl|rfl|rfl
          · by_cases hz:k0=0
            · have d5:(k0 !=0)=false:=by simp [hz]
              have hM':=Lib.hid (hM.skip k0 rfl hz)
              clear hz hM
              go_wp2_with fail
              go_roundw
              case rel=>exact ⟨1,by omega,rfl,hM'.out⟩
              case measure=>simp [intOf]
            · have d5:(k0 !=0)=true:=by simp [hz]
              obtain ⟨m,rfl,m1,m2, -⟩:=Ar.cnt_pos (HK.out k0 (by simp [Nd.kids]) hz)
              have cp:=hM.cp;have fc:=free_of hM.raw.hc
              obtain ⟨c,cc,hc⟩:=hM.cc m m2
              have hM':=Lib.hid (hc m rfl hz rfl)
              have d3:(m:Int)<(s.size:Int)+1:=by omega
              have d4:(0:Int)≤(m:Int):=by omega
              clear hz hM hc
              go_wp2_with fail
              go_roundw
              case rel=>exact ⟨1,by omega,rfl,hM'.out⟩
              case measure=>simp [intOf]
          · by_cases hz:k1=0
            · have d5:(k1 !=0)=false:=by simp [hz]
              have hM':=Lib.hid (hM.skip k1 rfl hz)
              clear hz hM
              go_wp2_with fail
              go_roundw
              case rel=>exact ⟨2,by omega,rfl,hM'.out⟩
              case measure=>simp [intOf]
            · have d5:(k1 !=0)=true:=by simp [hz]
              obtain ⟨m,rfl,m1,m2, -⟩:=Ar.cnt_pos (HK.out k1 (by simp [Nd.kids]) hz)
              have cp:=hM.cp;have fc:=free_of hM.raw.hc
              obtain ⟨c,cc,hc⟩:=hM.cc m m2
              have hM':=Lib.hid (hc m rfl hz rfl)
              have d3:(m:Int)<(s.size:Int)+1:=by omega
              have d4:(0:Int)≤(m:Int):=by omega
              clear hz hM hc
              go_wp2_with fail
              go_roundw
              case rel=>exact ⟨2,by omega,rfl,hM'.out⟩
              case measure=>simp [intOf]
          · by_cases hz:k2=0
            · have d5:(k2 !=0)=false:=by simp [hz]
              have hM':=Lib.hid (hM.skip k2 rfl hz)
              clear hz hM
              go_wp2_with fail
              go_roundw
              case rel=>exact ⟨3,by omega,rfl,hM'.out⟩
              case measure=>simp [intOf]
            · have d5:(k2 !=0)=true:=by simp [hz]
              obtain ⟨m,rfl,m1,m2, -⟩:=Ar.cnt_pos (HK.out k2 (by simp [Nd.kids]) hz)
              have cp:=hM.cp;have fc:=free_of hM.raw.hc
              obtain ⟨c,cc,hc⟩:=hM.cc m m2
              have hM':=Lib.hid (hc m rfl hz rfl)
              have d3:(m:Int)<(s.size:Int)+1:=by omega
              have d4:(0:Int)≤(m:Int):=by omega
              clear hz hM hc
              go_wp2_with fail
              go_roundw
              case rel=>exact ⟨3,by omega,rfl,hM'.out⟩
              case measure=>simp [intOf]
          · by_cases hz:k3=0
            · have d5:(k3 !=0)=false:=by simp [hz]
              have hM':=Lib.hid (hM.skip k3 rfl hz)
              clear hz hM
              go_wp2_with fail
              go_roundw
              case rel=>exact ⟨4,by omega,rfl,hM'.out⟩
              case measure=>simp [intOf]
            · have d5:(k3 !=0)=true:=by simp [hz]
              obtain ⟨m,rfl,m1,m2, -⟩:=Ar.cnt_pos (HK.out k3 (by simp [Nd.kids]) hz)
              have cp:=hM.cp;have fc:=free_of hM.raw.hc
              obtain ⟨c,cc,hc⟩:=hM.cc m m2
              have hM':=Lib.hid (hc m rfl hz rfl)
              have d3:(m:Int)<(s.size:Int)+1:=by omega
              have d4:(0:Int)≤(m:Int):=by omega
              clear hz hM hc
              go_wp2_with fail
              go_roundw
              case rel=>exact ⟨4,by omega,rfl,hM'.out⟩
              case measure=>simp [intOf]
          · have cp:=hM.cp;have cn:=cells_of hM.blk
            unfold Nd.cells at cn;dsimp only at cn
            obtain ⟨-,cc,cu,n0,n1,n2,n3,n4,n5,n6⟩:=hM.raw.reads
            have cc:=cc f hf3;have cu:=cu f hf3;have n0:=n0 f hf3;have n1:=n1 f hf3;have n2:=n2 f hf3;have n3:=n3 f hf3;have n4:=n4 f hf3;have n5:=n5 f hf3;have n6:=n6 f hf3
            dsimp only at cc cu n0 n1 n2 n3 n4 n5 n6
            have hne1:=hM.raw.pn;have hne2:=hM.raw.pc;have hne3:=hM.raw.pu;have hne4:=hM.raw.nc;have hne5:=hM.raw.nu;have hne6:=hM.raw.cu
            have hx1:w.heap.size≠nb:=fun e=>hM.no (by rw [e];exact hM.raw.on)
            have hx2:w.heap.size≠cb:=fun e=>hM.no (by rw [e];exact hM.raw.oc)
            have hx3:w.heap.size≠ub:=fun e=>hM.no (by rw [e];exact hM.raw.ou)
            have fn:=free_of hM.raw.hn;have fc:=free_of hM.raw.hc;have fu:=free_of hM.raw.hu
            have d3:(f:Int)<(s.size:Int)+1:=by omega
            have d4:(0:Int)≤(f:Int):=by omega
            go_wp2_with fail
            go_region
            have HM2:=Lib.hid hM;clear hM
            clear cc cu n0 n1 n2 n3 n4 n5 n6 cn fn fc fu
            have fp:=free_of HM2.out.raw.hp
            go_wp2_with fail
            go_ret2
            have hR2:=HM2.out.raw
            have hfin:=((((((((((hR2.setN (f*7) (.int .i64 tag)).setN (f*7+1) (.int .i64 k0)).setN (f*7+2) (.int .i64 k1)).setN (f*7+3) (.int .i64 k2)).setN (f*7+4) (.int .i64 k3)).setN (f*7+5) (.int .u64 a)).setN (f*7+6) (.int .u64 b)).setC f (.int .i64 1)).setU f (.bool true)).setB (wrap64 (s.busy+1))).setM (wrap64 (s.made+1))
            have hf0:=HM2.out.fr
            have o1:=hR2.op;have o2:=hR2.on;have o3:=hR2.oc;have o4:=hR2.ou
            refine ⟨by rw [HM.out];rfl,O,?_,?_⟩
            rotate_left
            · clear hfin
              exact (((((((((((hf0.ownSet (q:=_) (by exact o2) _).ownSet (q:=_) (by exact o2) _).ownSet (q:=_) (by exact o2) _).ownSet (q:=_) (by exact o2) _).ownSet (q:=_) (by exact o2) _).ownSet (q:=_) (by exact o2) _).ownSet (q:=_) (by exact o2) _).ownSet (q:=_) (by exact o3) _).ownSet (q:=_) (by exact o4) _).ownSet (q:=_) (by exact o1) _).ownSet (q:=_) (by exact o1) _).drew
            have hW:=HW.out
            rw [HM.out]
            refine (AP.of_raw (nb:=nb) (cb:=cb) (ub:=ub) (wv:=wv) (s:={s with node:=upd s.node f ⟨tag,k0,k1,k2,k3,a,b⟩,count:=upd (incAll s.count (Nd.kids ⟨tag,k0,k1,k2,k3,a,b⟩)) f 1,used:=upd s.used f true,busy:=wrap64 (s.busy+1),made:=wrap64 (s.made+1)}) ?_ hW).drew
            refine hfin.congr (fun i _=>(nodeF_upd _ f ⟨tag,k0,k1,k2,k3,a,b⟩ i).trans ?_) (fun i _=> ?_) (fun i _=> ?_)
            · rfl
            · unfold updF countF upd;dsimp only;split<;>rfl
            · unfold updF usedF upd;dsimp only;split<;>rfl
theorem make_calls (n : Nd) (hn : U64 n.a) (w : World) (hA : AP w ap s O) :
    Calls Tryz.prog 125 #[ap,n.val] w fun e w'=>e= .returned (.tuple #[.int .i64 (s.make n).1, .int .i64 (s.make n).2.1])∧Did noX ap (s.make n).2.2 O w w':=by
  by_cases ht:n.tag<1∨6<n.tag
  · refine (make_tag n ht w hA).mono ?_
    rintro e w1 ⟨rfl,hb⟩
    unfold Ar.make;rw [if_pos ht];exact ⟨rfl,O,hA.below hb,Fr.of_below hb⟩
  · exact make_calls0 n (by omega) (by omega) hn w hA
end
section
open Go.RowKit
attribute [local go_sem ↓] Go.wp_at_zero Go.wp_at_succ
attribute [local go_sem] lt_s2 lt_s3 lt_s4
attribute [local go_sem] idx0 idx1 idx2 idx3
variable {ap : Value} {s : Ar} {O : Nat → Prop}
theorem wMade_calls (n : Nd) (hn : U64 n.a) (e : Int) (w : World) (hA : AP w ap s O) :
    Calls Tryz.prog 255 #[ap,n.val, .int .i64 e] w fun e' w'=>e'= .returned (.tuple #[.int .i64 (wMade s n e).1, .int .i64 (wMade s n e).2.1])∧Did noX ap (wMade s n e).2.2 O w w':=by
  by_cases h1:e=0∧n.k0≠0
  · have d1:(e==0)=true:=by simpa using h1.1
    have d2:(n.k0 !=0)=true:=by simpa using h1.2
    have E:Hid (wMade s n e=((s.make n).1,(s.make n).2.1,(s.make n).2.2.dropAll n.kids)):=by show _=_;unfold wMade;rw [if_pos h1]
    clear h1
    unfold Nd.val
    go_enter Tryz.func255,Tryz.ntmps255
    go_wp2_with fail
    refine cg fun V hV_V=> ?_
    have hF:=Fr.refl (noX) O w
    refine nnf0 hV_V hA hF ?_;clear hA hF;intro hn_V z_V hA hF
    obtain ⟨kn,c_kn,o_kn,l_knV⟩:=nN hn_V hV_V (w.heap.size)
    clear hV_V hn_V
    refine wC (make_calls n hn _ hA) fun W1 O1 hA_W1 hf_W1=> ?_
    refine wif1 hf_W1 hF kn o_kn ?_;clear hA hF kn o_kn c_kn hf_W1;intro z_W1 hF kn c_kn o_kn;have hA:=hA_W1;clear hA_W1
    go_wp2_with fail
    go_loopw [27] (fun x wr=> ∃i:Nat,i≤4∧x= .int .i64 i∧ ∃O',AP wr ap (((s.make n).2.2).dropAll (n.kids.take i)) O'∧Fr noX O O' w wr) (fun x _=>4 - (intOf x).toNat)
    case atStart=>exact ⟨0,by omega,rfl,_,hA,hF⟩
    case round=>
      obtain ⟨i,hi,rfl,O',hA',hF'⟩:=hrel
      rcases (show i=0∨i=1∨i=2∨i=3∨i=4 by omega) with rfl|rfl|rfl|rfl|rfl
      · have HA:=Lib.hid hA';have HF:=Lib.hid hF';clear hA' hF'
        go_wp2_with fail
        refine (drop_calls _ _ HA.out).mono ?_
        rintro e1 w1 ⟨rfl,O1,hA1,hf1⟩
        go_wp2_with fail
        go_roundw
        case rel=>exact ⟨1,by omega,rfl,O1,hA1,HF.out.trans hf1⟩
        case measure=>simp [intOf]
      · have HA:=Lib.hid hA';have HF:=Lib.hid hF';clear hA' hF'
        go_wp2_with fail
        refine (drop_calls _ _ HA.out).mono ?_
        rintro e1 w1 ⟨rfl,O1,hA1,hf1⟩
        go_wp2_with fail
        go_roundw
        case rel=>exact ⟨2,by omega,rfl,O1,hA1,HF.out.trans hf1⟩
        case measure=>simp [intOf]
      · have HA:=Lib.hid hA';have HF:=Lib.hid hF';clear hA' hF'
        go_wp2_with fail
        refine (drop_calls _ _ HA.out).mono ?_
        rintro e1 w1 ⟨rfl,O1,hA1,hf1⟩
        go_wp2_with fail
        go_roundw
        case rel=>exact ⟨3,by omega,rfl,O1,hA1,HF.out.trans hf1⟩
        case measure=>simp [intOf]
      · have HA:=Lib.hid hA';have HF:=Lib.hid hF';clear hA' hF'
        go_wp2_with fail
        refine (drop_calls _ _ HA.out).mono ?_
        rintro e1 w1 ⟨rfl,O1,hA1,hf1⟩
        go_wp2_with fail
        go_roundw
        case rel=>exact ⟨4,by omega,rfl,O1,hA1,HF.out.trans hf1⟩
        case measure=>simp [intOf]
      · have HA:=Lib.hid hA';have HF:=Lib.hid hF';clear hA' hF'
        go_wp2_with fail
        go_ret2
        exact ⟨by rw [E.out];rfl,by rw [E.out];exact ⟨O',HA.out,HF.out⟩⟩
  · have E:Hid (wMade s n e=(0,e,s.dropAll n.kids)):=by show _=_;unfold wMade;rw [if_neg h1]
    by_cases h2:e=0
    · have d1:(e==0)=true:=by simpa using h2
      have d2:(n.k0 !=0)=false:=by simp;exact Classical.byContradiction fun h=>h1 ⟨h2,h⟩
      clear h1 h2
      unfold Nd.val
      go_enter Tryz.func255,Tryz.ntmps255
      have hF:=(Fr.refl noX O w).alloc (.cells #[.int .i64 n.tag, .int .i64 n.k0, .int .i64 n.k1, .int .i64 n.k2, .int .i64 n.k3, .int .u64 n.a, .int .u64 n.b] 171 (0,0))
      replace hA:=hA.alloc (.cells #[.int .i64 n.tag, .int .i64 n.k0, .int .i64 n.k1, .int .i64 n.k2, .int .i64 n.k3, .int .u64 n.a, .int .u64 n.b] 171 (0,0))
      go_wp2_with fail
      go_loopw [27] (fun x wr=> ∃i:Nat,i≤4∧x= .int .i64 i∧ ∃O',AP wr ap ((s).dropAll (n.kids.take i)) O'∧Fr noX O O' w wr) (fun x _=>4 - (intOf x).toNat)
      case atStart=>exact ⟨0,by omega,rfl,_,hA,hF⟩
      case round=>
        obtain ⟨i,hi,rfl,O',hA',hF'⟩:=hrel
        rcases (show i=0∨i=1∨i=2∨i=3∨i=4 by omega) with rfl|rfl|rfl|rfl|rfl
        · have HA:=Lib.hid hA';have HF:=Lib.hid hF';clear hA' hF'
          go_wp2_with fail
          refine (drop_calls _ _ HA.out).mono ?_
          rintro e1 w1 ⟨rfl,O1,hA1,hf1⟩
          go_wp2_with fail
          go_roundw
          case rel=>exact ⟨1,by omega,rfl,O1,hA1,HF.out.trans hf1⟩
          case measure=>simp [intOf]
        · have HA:=Lib.hid hA';have HF:=Lib.hid hF';clear hA' hF'
          go_wp2_with fail
          refine (drop_calls _ _ HA.out).mono ?_
          rintro e1 w1 ⟨rfl,O1,hA1,hf1⟩
          go_wp2_with fail
          go_roundw
          case rel=>exact ⟨2,by omega,rfl,O1,hA1,HF.out.trans hf1⟩
          case measure=>simp [intOf]
        · have HA:=Lib.hid hA';have HF:=Lib.hid hF';clear hA' hF'
          go_wp2_with fail
          refine (drop_calls _ _ HA.out).mono ?_
          rintro e1 w1 ⟨rfl,O1,hA1,hf1⟩
          go_wp2_with fail
          go_roundw
          case rel=>exact ⟨3,by omega,rfl,O1,hA1,HF.out.trans hf1⟩
          case measure=>simp [intOf]
        · have HA:=Lib.hid hA';have HF:=Lib.hid hF';clear hA' hF'
          go_wp2_with fail
          refine (drop_calls _ _ HA.out).mono ?_
          rintro e1 w1 ⟨rfl,O1,hA1,hf1⟩
          go_wp2_with fail
          go_roundw
          case rel=>exact ⟨4,by omega,rfl,O1,hA1,HF.out.trans hf1⟩
          case measure=>simp [intOf]
        · have HA:=Lib.hid hA';have HF:=Lib.hid hF';clear hA' hF'
          go_wp2_with fail
          go_ret2
          exact ⟨by rw [E.out];rfl,by rw [E.out];exact ⟨O',HA.out,HF.out⟩⟩
    · have d1:(e==0)=false:=by simpa using h2
      clear h1 h2
      unfold Nd.val
      go_enter Tryz.func255,Tryz.ntmps255
      have hF:=(Fr.refl noX O w).alloc (.cells #[.int .i64 n.tag, .int .i64 n.k0, .int .i64 n.k1, .int .i64 n.k2, .int .i64 n.k3, .int .u64 n.a, .int .u64 n.b] 171 (0,0))
      replace hA:=hA.alloc (.cells #[.int .i64 n.tag, .int .i64 n.k0, .int .i64 n.k1, .int .i64 n.k2, .int .i64 n.k3, .int .u64 n.a, .int .u64 n.b] 171 (0,0))
      go_wp2_with fail
      go_loopw [27] (fun x wr=> ∃i:Nat,i≤4∧x= .int .i64 i∧ ∃O',AP wr ap ((s).dropAll (n.kids.take i)) O'∧Fr noX O O' w wr) (fun x _=>4 - (intOf x).toNat)
      case atStart=>exact ⟨0,by omega,rfl,_,hA,hF⟩
      case round=>
        obtain ⟨i,hi,rfl,O',hA',hF'⟩:=hrel
        rcases (show i=0∨i=1∨i=2∨i=3∨i=4 by omega) with rfl|rfl|rfl|rfl|rfl
        · have HA:=Lib.hid hA';have HF:=Lib.hid hF';clear hA' hF'
          go_wp2_with fail
          refine (drop_calls _ _ HA.out).mono ?_
          rintro e1 w1 ⟨rfl,O1,hA1,hf1⟩
          go_wp2_with fail
          go_roundw
          case rel=>exact ⟨1,by omega,rfl,O1,hA1,HF.out.trans hf1⟩
          case measure=>simp [intOf]
        · have HA:=Lib.hid hA';have HF:=Lib.hid hF';clear hA' hF'
          go_wp2_with fail
          refine (drop_calls _ _ HA.out).mono ?_
          rintro e1 w1 ⟨rfl,O1,hA1,hf1⟩
          go_wp2_with fail
          go_roundw
          case rel=>exact ⟨2,by omega,rfl,O1,hA1,HF.out.trans hf1⟩
          case measure=>simp [intOf]
        · have HA:=Lib.hid hA';have HF:=Lib.hid hF';clear hA' hF'
          go_wp2_with fail
          refine (drop_calls _ _ HA.out).mono ?_
          rintro e1 w1 ⟨rfl,O1,hA1,hf1⟩
          go_wp2_with fail
          go_roundw
          case rel=>exact ⟨3,by omega,rfl,O1,hA1,HF.out.trans hf1⟩
          case measure=>simp [intOf]
        · have HA:=Lib.hid hA';have HF:=Lib.hid hF';clear hA' hF'
          go_wp2_with fail
          refine (drop_calls _ _ HA.out).mono ?_
          rintro e1 w1 ⟨rfl,O1,hA1,hf1⟩
          go_wp2_with fail
          go_roundw
          case rel=>exact ⟨4,by omega,rfl,O1,hA1,HF.out.trans hf1⟩
          case measure=>simp [intOf]
        · have HA:=Lib.hid hA';have HF:=Lib.hid hF';clear hA' hF'
          go_wp2_with fail
          go_ret2
          exact ⟨by rw [E.out];rfl,by rw [E.out];exact ⟨O',HA.out,HF.out⟩⟩
end
end Go.Proofs.YtmlmnmkhigjaaaaGreat
