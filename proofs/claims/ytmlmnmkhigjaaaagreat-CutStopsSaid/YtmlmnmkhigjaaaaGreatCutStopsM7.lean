/- Part 7 of what CutStops needs: the walks of the program's functions, and plain facts. -/
import Derived.Test.YtmlmnmkhigjaaaaGreatCutStopsM6
import Derived.Deep.Slices
import Derived.Deep.Fields
import Derived.ChangeSame
import Derived.WideShapes
set_option linter.unusedSimpArgs false
set_option linter.unusedVariables false
set_option linter.unnecessarySimpa false
namespace Go.Proofs.YtmlmnmkhigjaaaaGreat
set_option maxRecDepth 100000
set_option maxHeartbeats 8000000
section
open Go.RowKit
attribute [local go_sem ↓] Go.wp_at_zero Go.wp_at_succ
attribute [local go_sem] lt_s2 lt_s3 lt_s4
variable {ap : Value} {O : Nat → Prop} {tb : Nat} {t : Tb} {s : Ar}
theorem delR_le (ok:Bool) (l:List Bool) (hl:l.length≤64) (i:Int):(delR ok l i).length≤64:=by
  unfold delR
  split
  · exact Nat.le_trans (List.length_eraseIdx_le _ _) hl
  · simp
theorem delete_c {a n : Int} (hU : U64 a) (i : Int) (c : List Bool) (hc : delR (lfOk a n) (lfL a n) i = c) (w : World) : Calls Tryz.prog 324 #[.agg #[.int .u64 a, .int .i64 n], .int .i64 i] w fun e w' =>
    e= .returned (.tuple #[.agg #[.int .u64 (pack c:Int), .int .i64 (c.length:Int)], .bool (delOk (lfOk a n) (lfL a n) i)])∧Below w.heap.size w w':=by
  subst hc;exact delete_i hU i w
theorem tCut_calls : ∀ (k : Nat) (t : Tb) (O : Nat → Prop) (h i : Int) (r : Int × Tb) (w : World), Tb.cutG k t h i = some r → TB w tb ap t O →
    Calls Tryz.prog 292 #[.pointer (some ⟨tb,0,none⟩), .int .i64 h, .int .i64 i] w fun e w'=>e= .returned (.int .i64 r.1)∧DidT tb ap r.2 O w w'
  | 0,t,O,h,i,r,w,hr,hT=>by cases hr
  | k+1,t,O,h,i,r,w,hr,hT=>by
    have ih:=Lib.hid (tCut_calls k)
    unfold Tb.cutG at hr
    by_cases h1:(t.s.get h).tag=1
    · have d1:((t.s.get h).tag==1)=true:=by simpa using h1
      rw [if_pos h1] at hr
      obtain ⟨c,hc⟩: ∃c,delR (lfK (t.s.get h)) (lfB (t.s.get h)) i=c:=⟨_,rfl⟩
      rw [hc] at hr
      have hc64:c.length≤64:=by rw [←hc];exact delR_le _ _ (lfL_le _ _) _
      have HU:=Lib.hid (hT.hA.1.get64 h)
      have HC:=Lib.hid hc
      clear h1 hc
      by_cases hn:c=[]
      · rw [if_pos hn] at hr
        obtain rfl:=Option.some.inj hr
        subst hn
        clear hr
        go_enter Tryz.func292,Tryz.ntmps292
        have hA:=hT.hA
        have kt:=hT.blk
        have o_kt:=hT.no
        have c_kt:=f3 kt;have l_ktw:=lt_of kt
        go_wp2_with fail
        refine cg fun V hV_V=> ?_
        have hF:=Fr.refl ((oneX tb)) O w
        refine nef1 hV_V hA hF kt ?_;clear hA hF kt c_kt;intro z_V hA hF kt c_kt
        clear hV_V
        refine rC (bRow_calls _ _ hA) fun W1 hb_W1=> ?_
        refine bef1 hb_W1 hA hF kt ?_;clear hb_W1 hA hF kt c_kt;intro z_W1 hA hF kt c_kt
        unfold Nd.val
        go_wp2_with fail
        refine cg fun V1 hV_V1=> ?_
        refine nnf1 hV_V1 hA hF kt ?_;clear hA hF kt c_kt;intro hn_V1 z_V1 hA hF kt c_kt
        obtain ⟨kn,c_kn,o_kn,l_knV1⟩:=nN hn_V1 hV_V1 (W1.heap.size)
        clear hV_V1 hn_V1
        refine rC (bBits_calls (t.s.get h) _) fun W2 hb_W2=> ?_
        refine bef2 hb_W2 hA hF kt kn ?_;clear hb_W2 hA hF kt kn c_kt c_kn;intro z_W2 hA hF kt c_kt kn c_kn
        go_wp2_with fail
        refine cg fun V2 hV_V2=> ?_
        refine nef2 hV_V2 hA hF kt kn ?_;clear hA hF kt kn c_kt c_kn;intro z_V2 hA hF kt c_kt kn c_kn
        clear hV_V2
        refine rC (delete_c HU.out i [] HC.out _) fun W3 hb_W3=> ?_
        refine bef2 hb_W3 hA hF kt kn ?_;clear hb_W3 hA hF kt kn c_kt c_kn;intro z_W3 hA hF kt c_kt kn c_kn
        go_wp2_with fail
        go_ret
        refine ⟨rfl,?_⟩
        refine did_gen (fun V3 hV_V3=> ?_)
        refine nef1 hV_V3 hA hF kt ?_;clear hA hF kt c_kt c_kn kn;intro z_V3 hA hF kt c_kt
        clear hV_V3
        exact ⟨_,⟨hA,kt,o_kt⟩,hF⟩
      · rw [if_neg hn] at hr
        obtain rfl:=Option.some.inj hr
        have d2:((c.length:Int)==0)=false:=by rw [beq_eq_false_iff_ne];intro e;exact hn (List.eq_nil_of_length_eq_zero (by omega))
        clear hr hn
        go_enter Tryz.func292,Tryz.ntmps292
        have hA:=hT.hA
        have kt:=hT.blk
        have o_kt:=hT.no
        have c_kt:=f3 kt;have l_ktw:=lt_of kt
        go_wp2_with fail
        refine cg fun V hV_V=> ?_
        have hF:=Fr.refl ((oneX tb)) O w
        refine nef1 hV_V hA hF kt ?_;clear hA hF kt c_kt;intro z_V hA hF kt c_kt
        clear hV_V
        refine rC (bRow_calls _ _ hA) fun W1 hb_W1=> ?_
        refine bef1 hb_W1 hA hF kt ?_;clear hb_W1 hA hF kt c_kt;intro z_W1 hA hF kt c_kt
        unfold Nd.val
        go_wp2_with fail
        refine cg fun V1 hV_V1=> ?_
        refine nnf1 hV_V1 hA hF kt ?_;clear hA hF kt c_kt;intro hn_V1 z_V1 hA hF kt c_kt
        obtain ⟨kn,c_kn,o_kn,l_knV1⟩:=nN hn_V1 hV_V1 (W1.heap.size)
        clear hV_V1 hn_V1
        refine rC (bBits_calls (t.s.get h) _) fun W2 hb_W2=> ?_
        refine bef2 hb_W2 hA hF kt kn ?_;clear hb_W2 hA hF kt kn c_kt c_kn;intro z_W2 hA hF kt c_kt kn c_kn
        go_wp2_with fail
        refine cg fun V2 hV_V2=> ?_
        refine nef2 hV_V2 hA hF kt kn ?_;clear hA hF kt kn c_kt c_kn;intro z_V2 hA hF kt c_kt kn c_kn
        clear hV_V2
        refine rC (delete_c HU.out i c HC.out _) fun W3 hb_W3=> ?_
        refine bef2 hb_W3 hA hF kt kn ?_;clear hb_W3 hA hF kt kn c_kt c_kn;intro z_W3 hA hF kt c_kt kn c_kn
        go_wp2_with fail
        refine cg fun V3 hV_V3=> ?_
        refine nef1 hV_V3 hA hF kt ?_;clear hA hF kt c_kt c_kn kn;intro z_V3 hA hF kt c_kt
        clear hV_V3
        refine tC (tLeaf_calls c hc64 _ ⟨hA,kt,o_kt⟩) fun W4 O1 hT hf=> ?_
        refine ti0 hT.hA hT.blk hT.no hf hF ?_;clear hA hF kt c_kt o_kt hT hf;intro z_W4 hA hF kt c_kt o_kt
        go_wp2_with fail
        go_ret
        exact ⟨rfl,O1,⟨hA,kt,o_kt⟩,hF⟩
    · have d1:((t.s.get h).tag==1)=false:=by simpa using h1
      rw [if_neg h1] at hr
      clear h1
      by_cases h2:bLen t.s (t.s.get h).k0≤i
      · have d2:decide (bLen t.s (t.s.get h).k0≤i)=true:=by simpa using h2
        rw [if_pos h2] at hr
        clear h2
        obtain ⟨u,h_b,h_r⟩:=Option.bind_eq_some_iff.1 hr
        have Hu:=Lib.hid h_b;clear h_b hr;have hr:=h_r;clear h_r
        have Hr:=Lib.hid hr;clear hr
        go_enter Tryz.func292,Tryz.ntmps292
        have hA:=hT.hA
        have kt:=hT.blk
        have o_kt:=hT.no
        have c_kt:=f3 kt;have l_ktw:=lt_of kt
        go_wp2_with fail
        refine cg fun V hV_V=> ?_
        have hF:=Fr.refl ((oneX tb)) O w
        refine nef1 hV_V hA hF kt ?_;clear hA hF kt c_kt;intro z_V hA hF kt c_kt
        clear hV_V
        refine rC (bRow_calls _ _ hA) fun W1 hb_W1=> ?_
        refine bef1 hb_W1 hA hF kt ?_;clear hb_W1 hA hF kt c_kt;intro z_W1 hA hF kt c_kt
        unfold Nd.val
        go_wp2_with fail
        refine wg fun V1 hV_V1=> ?_
        refine nnf1 hV_V1 hA hF kt ?_;clear hA hF kt c_kt;intro hn_V1 z_V1 hA hF kt c_kt
        obtain ⟨kn,c_kn,o_kn,l_knV1⟩:=nN hn_V1 hV_V1 (W1.heap.size)
        clear hV_V1 hn_V1
        refine dr (fun v=>Sm v V1 (tb)∧Sm v V1 (W1.heap.size)∧(V1.heap.size≤v.heap.size)∧AP v ap t.s O) ⟨fun _=>rfl,fun _=>rfl,Nat.le_refl _,hA.drew⟩ fun V1d hV_V1d hHeld=> ?_
        have v_kt:=c_kt.1;have v_kn:=c_kn.1
        refine nef2 hV_V1d hA hF kt kn ?_;clear hA hF kt kn c_kt c_kn;intro z_V1d hA hF kt c_kt kn c_kn
        clear hV_V1d
        refine ta 0 hHeld ?_
        refine ta 1 hHeld ?_
        refine ta 2 hHeld ?_
        refine ta 3 hHeld ?_
        refine ta 4 hHeld ?_
        refine ta 5 hHeld ?_
        refine ta 6 hHeld ?_
        refine rd 7 rfl fun K hK=> ?_
        go_simp
        try simp only [IntWalk.i64_left]
        refine rC (bLen_calls _ _ hA) fun W2 hb_W2=> ?_
        refine bef2 hb_W2 hA hF kt kn ?_;clear hb_W2 hA hF kt kn c_kt c_kn;intro z_W2 hA hF kt c_kt kn c_kn
        refine ho hK ⟨vv c_kt v_kt,vv c_kn v_kn,by omega,hA⟩ fun hHeld=> ?_
        clear hK K
        refine rd 8 rfl fun K hK=> ?_
        go_simp
        refine ho hK hHeld fun hHeld=> ?_
        clear hK K
        refine wd ?_
        go_wp2_with fail
        refine wg fun V2 hV_V2=> ?_
        refine nef2 hV_V2 hA hF kt kn ?_;clear hA hF kt kn c_kt c_kn;intro z_V2 hA hF kt c_kt kn c_kn
        clear hV_V2
        refine dr (fun v=>(v.cell? ⟨tb,0,none⟩=V2.cell? ⟨tb,0,none⟩)∧Sm v V2 (W1.heap.size)∧(V2.heap.size≤v.heap.size)∧True) ⟨rfl,fun _=>rfl,Nat.le_refl _,trivial⟩ fun V2d hV_V2d hHeld=> ?_
        have v_kt:=c_kt.1;have v_kn:=c_kn.1
        refine nef2 hV_V2d hA hF kt kn ?_;clear hA hF kt kn c_kt c_kn;intro z_V2d hA hF kt c_kt kn c_kn
        clear hV_V2d
        refine ta 0 hHeld ?_
        refine ta 1 hHeld ?_
        refine ta 2 hHeld ?_
        refine ta 3 hHeld ?_
        refine ta 4 hHeld ?_
        refine ta 6 hHeld ?_
        refine ta 7 hHeld ?_
        refine ta 8 hHeld ?_
        refine ta 9 hHeld ?_
        refine ta 10 hHeld ?_
        refine ta 11 hHeld ?_
        refine ta 12 hHeld ?_
        refine rd 5 rfl fun K hK=> ?_
        go_simp
        try simp only [IntWalk.i64_left]
        refine tC (tKeep_calls (t:=t) (t.s.get h).k0 _ ⟨hA,kt,o_kt⟩) fun W3 O1 hT hf=> ?_
        refine ti1 hT.hA hT.blk hT.no hf hF kn o_kn ?_;clear hA hF kt c_kt o_kt kn o_kn c_kn hT hf;intro z_W3 hA hF kt c_kt o_kt kn c_kn o_kn
        refine ho hK ⟨vo c_kt v_kt 0,vv c_kn v_kn,by omega,trivial⟩ fun hHeld=> ?_
        clear hK K
        refine rd 13 rfl fun K hK=> ?_
        go_simp
        try simp only [IntWalk.i64_left]
        refine tC (ih.out (t.keep (t.s.get h).k0) _ _ _ _ _ Hu.out ⟨hA,kt,o_kt⟩) fun W4 O2 hT hf=> ?_
        refine ti1 hT.hA hT.blk hT.no hf hF kn o_kn ?_;clear hA hF kt c_kt o_kt kn o_kn c_kn hT hf;intro z_W4 hA hF kt c_kt o_kt kn c_kn o_kn
        refine ho hK ⟨vo c_kt v_kt 0,vv c_kn v_kn,by omega,trivial⟩ fun hHeld=> ?_
        clear hK K
        refine rd 14 rfl fun K hK=> ?_
        go_simp
        try simp only [IntWalk.i64_left]
        refine tC (tBoth_calls (t:=u.2) _ _ _ Hr.out _ ⟨hA,kt,o_kt⟩) fun W5 O3 hT hf=> ?_
        refine ti1 hT.hA hT.blk hT.no hf hF kn o_kn ?_;clear hA hF kt c_kt o_kt kn o_kn c_kn hT hf;intro z_W5 hA hF kt c_kt o_kt kn c_kn o_kn
        refine ho hK ⟨vo c_kt v_kt 0,vv c_kn v_kn,by omega,trivial⟩ fun hHeld=> ?_
        clear hK K
        refine rd 15 rfl fun K hK=> ?_
        go_simp
        refine ho hK hHeld fun hHeld=> ?_
        clear hK K
        refine wd ?_
        go_wp2_with fail
        go_ret
        exact ⟨rfl,O3,⟨hA,kt,o_kt⟩,hF⟩
      · have d2:decide (bLen t.s (t.s.get h).k0≤i)=false:=by simpa using h2
        rw [if_neg h2] at hr
        clear h2
        obtain ⟨u,h_b,h_r⟩:=Option.bind_eq_some_iff.1 hr
        have Hu:=Lib.hid h_b;clear h_b hr;have hr:=h_r;clear h_r
        have Hr:=Lib.hid hr;clear hr
        go_enter Tryz.func292,Tryz.ntmps292
        have hA:=hT.hA
        have kt:=hT.blk
        have o_kt:=hT.no
        have c_kt:=f3 kt;have l_ktw:=lt_of kt
        go_wp2_with fail
        refine cg fun V hV_V=> ?_
        have hF:=Fr.refl ((oneX tb)) O w
        refine nef1 hV_V hA hF kt ?_;clear hA hF kt c_kt;intro z_V hA hF kt c_kt
        clear hV_V
        refine rC (bRow_calls _ _ hA) fun W1 hb_W1=> ?_
        refine bef1 hb_W1 hA hF kt ?_;clear hb_W1 hA hF kt c_kt;intro z_W1 hA hF kt c_kt
        unfold Nd.val
        go_wp2_with fail
        refine wg fun V1 hV_V1=> ?_
        refine nnf1 hV_V1 hA hF kt ?_;clear hA hF kt c_kt;intro hn_V1 z_V1 hA hF kt c_kt
        obtain ⟨kn,c_kn,o_kn,l_knV1⟩:=nN hn_V1 hV_V1 (W1.heap.size)
        clear hV_V1 hn_V1
        refine dr (fun v=>Sm v V1 (tb)∧Sm v V1 (W1.heap.size)∧(V1.heap.size≤v.heap.size)∧AP v ap t.s O) ⟨fun _=>rfl,fun _=>rfl,Nat.le_refl _,hA.drew⟩ fun V1d hV_V1d hHeld=> ?_
        have v_kt:=c_kt.1;have v_kn:=c_kn.1
        refine nef2 hV_V1d hA hF kt kn ?_;clear hA hF kt kn c_kt c_kn;intro z_V1d hA hF kt c_kt kn c_kn
        clear hV_V1d
        refine ta 0 hHeld ?_
        refine ta 1 hHeld ?_
        refine ta 2 hHeld ?_
        refine ta 3 hHeld ?_
        refine ta 4 hHeld ?_
        refine ta 5 hHeld ?_
        refine ta 6 hHeld ?_
        refine rd 7 rfl fun K hK=> ?_
        go_simp
        try simp only [IntWalk.i64_left]
        refine rC (bLen_calls _ _ hA) fun W2 hb_W2=> ?_
        refine bef2 hb_W2 hA hF kt kn ?_;clear hb_W2 hA hF kt kn c_kt c_kn;intro z_W2 hA hF kt c_kt kn c_kn
        refine ho hK ⟨vv c_kt v_kt,vv c_kn v_kn,by omega,hA⟩ fun hHeld=> ?_
        clear hK K
        refine rd 8 rfl fun K hK=> ?_
        go_simp
        refine ho hK hHeld fun hHeld=> ?_
        clear hK K
        refine wd ?_
        go_wp2_with fail
        refine wg fun V2 hV_V2=> ?_
        refine nef2 hV_V2 hA hF kt kn ?_;clear hA hF kt kn c_kt c_kn;intro z_V2 hA hF kt c_kt kn c_kn
        clear hV_V2
        refine dr (fun v=>(v.cell? ⟨tb,0,none⟩=V2.cell? ⟨tb,0,none⟩)∧Sm v V2 (W1.heap.size)∧(V2.heap.size≤v.heap.size)∧True) ⟨rfl,fun _=>rfl,Nat.le_refl _,trivial⟩ fun V2d hV_V2d hHeld=> ?_
        have v_kt:=c_kt.1;have v_kn:=c_kn.1
        refine nef2 hV_V2d hA hF kt kn ?_;clear hA hF kt kn c_kt c_kn;intro z_V2d hA hF kt c_kt kn c_kn
        clear hV_V2d
        refine ta 0 hHeld ?_
        refine ta 1 hHeld ?_
        refine ta 2 hHeld ?_
        refine ta 3 hHeld ?_
        refine ta 4 hHeld ?_
        refine ta 5 hHeld ?_
        refine ta 7 hHeld ?_
        refine ta 8 hHeld ?_
        refine ta 9 hHeld ?_
        refine ta 10 hHeld ?_
        refine rd 6 rfl fun K hK=> ?_
        go_simp
        try simp only [IntWalk.i64_left]
        refine tC (ih.out t _ _ _ _ _ Hu.out ⟨hA,kt,o_kt⟩) fun W3 O1 hT hf=> ?_
        refine ti1 hT.hA hT.blk hT.no hf hF kn o_kn ?_;clear hA hF kt c_kt o_kt kn o_kn c_kn hT hf;intro z_W3 hA hF kt c_kt o_kt kn c_kn o_kn
        refine ho hK ⟨vo c_kt v_kt 0,vv c_kn v_kn,by omega,trivial⟩ fun hHeld=> ?_
        clear hK K
        refine rd 11 rfl fun K hK=> ?_
        go_simp
        try simp only [IntWalk.i64_left]
        refine tC (tKeep_calls (t:=u.2) (t.s.get h).k1 _ ⟨hA,kt,o_kt⟩) fun W4 O2 hT hf=> ?_
        refine ti1 hT.hA hT.blk hT.no hf hF kn o_kn ?_;clear hA hF kt c_kt o_kt kn o_kn c_kn hT hf;intro z_W4 hA hF kt c_kt o_kt kn c_kn o_kn
        refine ho hK ⟨vo c_kt v_kt 0,vv c_kn v_kn,by omega,trivial⟩ fun hHeld=> ?_
        clear hK K
        refine rd 12 rfl fun K hK=> ?_
        go_simp
        try simp only [IntWalk.i64_left]
        refine tC (tBoth_calls (t:=u.2.keep (t.s.get h).k1) _ _ _ Hr.out _ ⟨hA,kt,o_kt⟩) fun W5 O3 hT hf=> ?_
        refine ti1 hT.hA hT.blk hT.no hf hF kn o_kn ?_;clear hA hF kt c_kt o_kt kn o_kn c_kn hT hf;intro z_W5 hA hF kt c_kt o_kt kn c_kn o_kn
        refine ho hK ⟨vo c_kt v_kt 0,vv c_kn v_kn,by omega,trivial⟩ fun hHeld=> ?_
        clear hK K
        refine rd 13 rfl fun K hK=> ?_
        go_simp
        refine ho hK hHeld fun hHeld=> ?_
        clear hK K
        refine wd ?_
        go_wp2_with fail
        go_ret
        exact ⟨rfl,O3,⟨hA,kt,o_kt⟩,hF⟩
theorem bDelete_calls (h i : Int) (r : Int × Int × Ar) (hr : bDelG s h i = some r) (w : World) (hA : AP w ap s O) :
    Calls Tryz.prog 236 #[ap, .int .i64 h, .int .i64 i] w fun e w'=>e= .returned (.tuple #[.int .i64 r.1, .int .i64 r.2.1])∧Did noX ap r.2.2 O w w':=by
  obtain ⟨q,rfl⟩:=hA.ptr
  unfold bDelG at hr
  by_cases h1:i<0
  · have d1:decide (i<0)=true:=by simpa using h1
    rw [if_pos (.inl h1)] at hr
    obtain rfl:=Option.some.inj hr
    clear hr h1
    go_enter Tryz.func236,Tryz.ntmps236
    go_wp2_with fail
    go_ret2
    exact ⟨rfl,O,hA,Fr.refl _ _ _⟩
  · have d1:decide (i<0)=false:=by simpa using h1
    by_cases h2:bLen s h≤i
    · have d2:decide (bLen s h≤i)=true:=by simpa using h2
      rw [if_pos (.inr h2)] at hr
      obtain rfl:=Option.some.inj hr
      clear hr h1 h2
      go_enter Tryz.func236,Tryz.ntmps236
      go_wp2_with fail
      refine cg fun V hV_V=> ?_
      have hF:=Fr.refl (noX) O w
      refine nef0 hV_V hA hF ?_;clear hA hF;intro z_V hA hF
      clear hV_V
      refine rC (bLen_calls _ _ hA) fun W1 hb_W1=> ?_
      refine bef0 hb_W1 hA hF ?_;clear hb_W1 hA hF;intro z_W1 hA hF
      go_wp2_with fail
      go_ret2
      exact ⟨rfl,O,hA,hF⟩
    · have d2:decide (bLen s h≤i)=false:=by simpa using h2
      rw [if_neg (by omega)] at hr
      obtain ⟨u,hu,rfl⟩:=Option.map_eq_some_iff.1 hr
      have Hu:=Lib.hid hu
      clear hr hu h1 h2
      go_enter Tryz.func236,Tryz.ntmps236
      go_wp2_with fail
      refine cg fun V hV_V=> ?_
      have hF:=Fr.refl (noX) O w
      refine nef0 hV_V hA hF ?_;clear hA hF;intro z_V hA hF
      clear hV_V
      refine rC (bLen_calls _ _ hA) fun W1 hb_W1=> ?_
      refine bef0 hb_W1 hA hF ?_;clear hb_W1 hA hF;intro z_W1 hA hF
      go_wp2_with fail
      refine cg fun V1 hV_V1=> ?_
      refine nnf0 hV_V1 hA hF ?_;clear hA hF;intro hn_V1 z_V1 hA hF
      obtain ⟨kt,c_kt,o_kt,l_ktV1⟩:=nN hn_V1 hV_V1 (W1.heap.size)
      clear hV_V1 hn_V1
      refine tC (tCut_calls rounds ⟨s,0⟩ _ _ _ _ _ Hu.out ⟨hA,kt,o_kt⟩) fun W2 O1 hT hf=> ?_
      refine tn0 hT.hA hT.blk hT.no hf hF ?_;clear hA hF kt c_kt o_kt hT hf;intro z_W2 hA hF kt c_kt o_kt
      go_wp2_with fail
      refine cg fun V2 hV_V2=> ?_
      refine nef1 hV_V2 hA hF kt ?_;clear hA hF kt c_kt;intro z_V2 hA hF kt c_kt
      clear hV_V2
      refine tC (tTold_calls (t:=u.2) u.1 _ ⟨hA,kt,o_kt⟩) fun W3 O2 hT hf=> ?_
      refine tn0 hT.hA hT.blk hT.no hf hF ?_;clear hA hF kt c_kt o_kt hT hf;intro z_W3 hA hF kt c_kt o_kt
      go_wp2_with fail
      go_ret2
      refine ⟨rfl,O2,?_,hF⟩
      have e:(Tb.told u).2.2=u.2.s:=by unfold Tb.told;split<;>rfl
      rw [e];exact hA
end
section
open Go.RowKit
attribute [local go_sem ↓] Go.wp_at_zero Go.wp_at_succ
attribute [local go_sem] lt_s2 lt_s3 lt_s4
attribute [local go_sem] idx0 idx1 idx2 idx3
variable {ap : Value}
theorem wCut_step (d : Nat) (hd : d + 1 ≤ 9) (s : Ar) (O : Nat → Prop) (h i l : Int) (hl : l = 9 - ((d + 1 : Nat) : Int)) (r : Int × Int × Ar) (w : World) (o : Bool × Bool) (one : Bool) (ho : bGet s (s.get h).k0 i = some o) (ho1 : o.1 = one) (j : Int) (hj : wAlike s (s.get h).k0 i one = some j)
    (u:Int×Int×Ar) (he:u.2.1=0) (v:Int×Int×Ar) (hv:bDelG (u.2.2.keep ((s.get h).kid !one)) (s.get h).k0 i=some v) (hr:r=wMade v.2.2 ⟨3,v.1,if one then (s.get h).k1 else u.1,if one then u.1 else (s.get h).k2,0,0,0⟩ v.2.1)
    (ih:Hid (∀(l':Int) (w:World),l'=wrap64 (l+1)→AP w ap s O→Calls Tryz.prog 290 #[ap, .int .i64 ((s.get h).kid one), .int .i64 j, .int .i64 l'] w fun e w'=>e= .returned (.tuple #[.int .i64 u.1, .int .i64 u.2.1])∧Did noX ap u.2.2 O w w'))
    (hA:AP w ap s O):
    Calls Tryz.prog 290 #[ap, .int .i64 h, .int .i64 i, .int .i64 l] w fun e w'=>e= .returned (.tuple #[.int .i64 r.1, .int .i64 r.2.1])∧Did noX ap r.2.2 O w w':=by
  have d1:decide (8<l)=false:=by simp;omega
  have d2:(u.2.1 !=0)=false:=by simp [he]
  have Ho:=Lib.hid ho;have Hj:=Lib.hid hj;have Hv:=Lib.hid hv;have Hr:=Lib.hid hr
  have hl0:0≤l:=by omega
  have hl1:l≤8:=by omega
  have hz:U64 0:=⟨by decide,by decide⟩
  clear ho hj hv hr he hl hd
  go_enter Tryz.func290,Tryz.ntmps290
  go_wp2_with fail
  refine cg fun V hV_V=> ?_
  have hF:=Fr.refl (noX) O w
  refine nef0 hV_V hA hF ?_;clear hA hF;intro z_V hA hF
  clear hV_V
  refine rC (wRow_calls _ _ hA) fun W1 hb_W1=> ?_
  refine bef0 hb_W1 hA hF ?_;clear hb_W1 hA hF;intro z_W1 hA hF
  unfold Nd.val
  go_wp2_with fail
  refine cg fun V1 hV_V1=> ?_
  refine nnf0 hV_V1 hA hF ?_;clear hA hF;intro hn_V1 z_V1 hA hF
  obtain ⟨kn,c_kn,o_kn,l_knV1⟩:=nN hn_V1 hV_V1 (W1.heap.size)
  clear hV_V1 hn_V1
  refine rC (bGet_calls _ _ o Ho.out _ hA) fun W9 hb_W9=> ?_
  refine bef1 hb_W9 hA hF kn ?_;clear hb_W9 hA hF kn c_kn;intro z_W9 hA hF kn c_kn
  rw [ho1]
  go_wp2_with fail
  refine wg fun V2 hV_V2=> ?_
  refine nnf1 hV_V2 hA hF kn ?_;clear hA hF kn c_kn;intro hn_V2 z_V2 hA hF kn c_kn
  obtain ⟨kx,c_kx,o_kx,l_kxV2⟩:=nN hn_V2 hV_V2 (W9.heap.size)
  clear hV_V2 hn_V2
  refine dr (fun v=>Sm v V2 (W1.heap.size)∧Sm v V2 (W9.heap.size)∧(V2.heap.size≤v.heap.size)∧True) ⟨fun _=>rfl,fun _=>rfl,Nat.le_refl _,trivial⟩ fun V2d hV_V2d hHeld=> ?_
  have v_kn:=c_kn.1;have v_kx:=c_kx.1
  refine nef2 hV_V2d hA hF kn kx ?_;clear hA hF kn kx c_kn c_kx;intro z_V2d hA hF kn c_kn kx c_kx
  clear hV_V2d
  refine ta 0 hHeld ?_
  refine ta 1 hHeld ?_
  refine ta 2 hHeld ?_
  refine ta 4 hHeld ?_
  refine ta 5 hHeld ?_
  refine ta 6 hHeld ?_
  refine ta 7 hHeld ?_
  refine ta 8 hHeld ?_
  refine ta 9 hHeld ?_
  refine ta 11 hHeld ?_
  refine ta 12 hHeld ?_
  refine rd 3 rfl fun K hK=> ?_
  go_simp
  try simp only [IntWalk.i64_left]
  refine rC (wKid_calls (s.get h) one _) fun W2 hb_W2=> ?_
  refine bef2 hb_W2 hA hF kn kx ?_;clear hb_W2 hA hF kn kx c_kn c_kx;intro z_W2 hA hF kn c_kn kx c_kx
  refine ho hK ⟨vv c_kn v_kn,vv c_kx v_kx,by omega,trivial⟩ fun hHeld=> ?_
  clear hK K
  refine rd 10 rfl fun K hK=> ?_
  go_simp
  try simp only [IntWalk.i64_left]
  refine rC (wAlike_calls _ _ _ _ Hj.out _ hA) fun W3 hb_W3=> ?_
  refine bef2 hb_W3 hA hF kn kx ?_;clear hb_W3 hA hF kn kx c_kn c_kx;intro z_W3 hA hF kn c_kn kx c_kx
  refine ho hK ⟨vv c_kn v_kn,vv c_kx v_kx,by omega,trivial⟩ fun hHeld=> ?_
  clear hK K
  refine rd 13 rfl fun K hK=> ?_
  go_simp
  try simp only [IntWalk.i64_left]
  refine wC (ih.out _ _ rfl hA) fun W4 O1 hA_W4 hf_W4=> ?_
  refine wif2 hf_W4 hF kn o_kn kx o_kx ?_;clear hA hF kn o_kn kx o_kx c_kn c_kx hf_W4;intro z_W4 hF kn c_kn o_kn kx c_kx o_kx;have hA:=hA_W4;clear hA_W4
  refine ho hK ⟨vv c_kn v_kn,vv c_kx v_kx,by omega,trivial⟩ fun hHeld=> ?_
  clear hK K
  refine ta 14 hHeld ?_
  refine ta 15 hHeld ?_
  refine ta 16 hHeld ?_
  refine rd 17 rfl fun K hK=> ?_
  go_simp
  refine ho hK hHeld fun hHeld=> ?_
  clear hK K
  refine rd 18 rfl fun K hK=> ?_
  go_simp
  refine ho hK hHeld fun hHeld=> ?_
  clear hK K
  refine wd ?_
  cases one with
  | true=>
    go_wp2_with fail
    refine cg fun V5 hV_V5=> ?_
    refine nef2 hV_V5 hA hF kn kx ?_;clear hA hF kn kx c_kn c_kx;intro z_V5 hA hF kn c_kn kx c_kx
    clear hV_V5
    refine rC (wKid_calls (⟨3,0,(s.get h).k1,u.1,0,0,0⟩) false _) fun W5 hb_W5=> ?_
    refine bef2 hb_W5 hA hF kn kx ?_;clear hb_W5 hA hF kn kx c_kn c_kx;intro z_W5 hA hF kn c_kn kx c_kx
    go_wp2_with fail
    refine cg fun V6 hV_V6=> ?_
    refine nef2 hV_V6 hA hF kn kx ?_;clear hA hF kn kx c_kn c_kx;intro z_V6 hA hF kn c_kn kx c_kx
    clear hV_V6
    refine wC (keep_calls ((s.get h).kid !true) _ hA) fun W6 O2 hA_W6 hf_W6=> ?_
    refine wif2 hf_W6 hF kn o_kn kx o_kx ?_;clear hA hF kn o_kn kx o_kx c_kn c_kx hf_W6;intro z_W6 hF kn c_kn o_kn kx c_kx o_kx;have hA:=hA_W6;clear hA_W6
    go_wp2_with fail
    refine cg fun V7 hV_V7=> ?_
    refine nef2 hV_V7 hA hF kn kx ?_;clear hA hF kn kx c_kn c_kx;intro z_V7 hA hF kn c_kn kx c_kx
    clear hV_V7
    refine wC (bDelete_calls _ _ _ Hv.out _ hA) fun W7 O3 hA_W7 hf_W7=> ?_
    refine wif2 hf_W7 hF kn o_kn kx o_kx ?_;clear hA hF kn o_kn kx o_kx c_kn c_kx hf_W7;intro z_W7 hF kn c_kn o_kn kx c_kx o_kx;have hA:=hA_W7;clear hA_W7
    go_wp2_with fail
    refine cg fun V8 hV_V8=> ?_
    refine nef2 hV_V8 hA hF kn kx ?_;clear hA hF kn kx c_kn c_kx;intro z_V8 hA hF kn c_kn kx c_kx
    clear hV_V8
    refine wC (wMade_calls (⟨3,v.1,(s.get h).k1,u.1,0,0,0⟩) hz v.2.1 _ hA) fun W8 O4 hA_W8 hf_W8=> ?_
    refine wif2 hf_W8 hF kn o_kn kx o_kx ?_;clear hA hF kn o_kn kx o_kx c_kn c_kx hf_W8;intro z_W8 hF kn c_kn o_kn kx c_kx o_kx;have hA:=hA_W8;clear hA_W8
    go_wp2_with fail
    go_ret2
    rw [Hr.out]
    exact ⟨rfl,O4,hA,hF⟩
  | false=>
    go_wp2_with fail
    refine wg fun V5 hV_V5=> ?_
    refine nef2 hV_V5 hA hF kn kx ?_;clear hA hF kn kx c_kn c_kx;intro z_V5 hA hF kn c_kn kx c_kx
    clear hV_V5
    refine dr (fun v=>Sm v V5 (W1.heap.size)∧(V5.heap.size≤v.heap.size)∧AP v ap u.2.2 O1) ⟨fun _=>rfl,Nat.le_refl _,hA.drew⟩ fun V5d hV_V5d hHeld=> ?_
    have v_kn:=c_kn.1
    refine nef2 hV_V5d hA hF kn kx ?_;clear hA hF kn kx c_kn c_kx;intro z_V5d hA hF kn c_kn kx c_kx
    clear hV_V5d
    refine ta 0 hHeld ?_
    refine ta 1 hHeld ?_
    refine ta 2 hHeld ?_
    refine ta 3 hHeld ?_
    refine ta 4 hHeld ?_
    refine ta 5 hHeld ?_
    refine ta 7 hHeld ?_
    refine rd 6 rfl fun K hK=> ?_
    go_simp
    refine ga (K:=K) fun D1 hV_D1=> ?_
    refine nef2 hV_D1 hA hF kn kx ?_;clear hA hF kn kx c_kn c_kx;intro z_D1 hA hF kn c_kn kx c_kx
    clear hV_D1
    refine ho hK ⟨vv c_kn v_kn,by omega,hA⟩ fun hHeld=> ?_
    clear hK K
    refine ta 8 hHeld ?_
    refine rd 9 rfl fun K hK=> ?_
    go_simp
    refine ga (K:=K) fun D2 hV_D2=> ?_
    refine nef2 hV_D2 hA hF kn kx ?_;clear hA hF kn kx c_kn c_kx;intro z_D2 hA hF kn c_kn kx c_kx
    clear hV_D2
    refine ho hK ⟨vv c_kn v_kn,by omega,hA⟩ fun hHeld=> ?_
    clear hK K
    refine wd ?_
    go_wp2_with fail
    refine cg fun V6 hV_V6=> ?_
    refine nef2 hV_V6 hA hF kn kx ?_;clear hA hF kn kx c_kn c_kx;intro z_V6 hA hF kn c_kn kx c_kx
    clear hV_V6
    refine rC (wKid_calls (⟨3,0,u.1,(s.get h).k2,0,0,0⟩) true _) fun W5 hb_W5=> ?_
    refine bef2 hb_W5 hA hF kn kx ?_;clear hb_W5 hA hF kn kx c_kn c_kx;intro z_W5 hA hF kn c_kn kx c_kx
    go_wp2_with fail
    refine cg fun V7 hV_V7=> ?_
    refine nef2 hV_V7 hA hF kn kx ?_;clear hA hF kn kx c_kn c_kx;intro z_V7 hA hF kn c_kn kx c_kx
    clear hV_V7
    refine wC (keep_calls ((s.get h).kid !false) _ hA) fun W6 O2 hA_W6 hf_W6=> ?_
    refine wif2 hf_W6 hF kn o_kn kx o_kx ?_;clear hA hF kn o_kn kx o_kx c_kn c_kx hf_W6;intro z_W6 hF kn c_kn o_kn kx c_kx o_kx;have hA:=hA_W6;clear hA_W6
    go_wp2_with fail
    refine cg fun V8 hV_V8=> ?_
    refine nef2 hV_V8 hA hF kn kx ?_;clear hA hF kn kx c_kn c_kx;intro z_V8 hA hF kn c_kn kx c_kx
    clear hV_V8
    refine wC (bDelete_calls _ _ _ Hv.out _ hA) fun W7 O3 hA_W7 hf_W7=> ?_
    refine wif2 hf_W7 hF kn o_kn kx o_kx ?_;clear hA hF kn o_kn kx o_kx c_kn c_kx hf_W7;intro z_W7 hF kn c_kn o_kn kx c_kx o_kx;have hA:=hA_W7;clear hA_W7
    go_wp2_with fail
    refine cg fun V9 hV_V9=> ?_
    refine nef2 hV_V9 hA hF kn kx ?_;clear hA hF kn kx c_kn c_kx;intro z_V9 hA hF kn c_kn kx c_kx
    clear hV_V9
    refine wC (wMade_calls (⟨3,v.1,u.1,(s.get h).k2,0,0,0⟩) hz v.2.1 _ hA) fun W8 O4 hA_W8 hf_W8=> ?_
    refine wif2 hf_W8 hF kn o_kn kx o_kx ?_;clear hA hF kn o_kn kx o_kx c_kn c_kx hf_W8;intro z_W8 hF kn c_kn o_kn kx c_kx o_kx;have hA:=hA_W8;clear hA_W8
    go_wp2_with fail
    go_ret2
    rw [Hr.out]
    exact ⟨rfl,O4,hA,hF⟩
theorem wCut_err (d : Nat) (hd : d + 1 ≤ 9) (s : Ar) (O : Nat → Prop) (h i l : Int) (hl : l = 9 - ((d + 1 : Nat) : Int)) (r : Int × Int × Ar) (w : World) (o : Bool × Bool) (one : Bool) (ho : bGet s (s.get h).k0 i = some o) (ho1 : o.1 = one) (j : Int) (hj : wAlike s (s.get h).k0 i one = some j)
    (u:Int×Int×Ar) (he: ¬u.2.1=0) (hr:r=(0,u.2.1,u.2.2))
    (ih:Hid (∀(l':Int) (w:World),l'=wrap64 (l+1)→AP w ap s O→Calls Tryz.prog 290 #[ap, .int .i64 ((s.get h).kid one), .int .i64 j, .int .i64 l'] w fun e w'=>e= .returned (.tuple #[.int .i64 u.1, .int .i64 u.2.1])∧Did noX ap u.2.2 O w w'))
    (hA:AP w ap s O):
    Calls Tryz.prog 290 #[ap, .int .i64 h, .int .i64 i, .int .i64 l] w fun e w'=>e= .returned (.tuple #[.int .i64 r.1, .int .i64 r.2.1])∧Did noX ap r.2.2 O w w':=by
  have d1:decide (8<l)=false:=by simp;omega
  have d2:(u.2.1 !=0)=true:=by simp [he]
  have Ho:=Lib.hid ho;have Hj:=Lib.hid hj;have Hr:=Lib.hid hr
  have hl0:0≤l:=by omega
  have hl1:l≤8:=by omega
  have hz:U64 0:=⟨by decide,by decide⟩
  clear ho hj hr he hl hd
  go_enter Tryz.func290,Tryz.ntmps290
  go_wp2_with fail
  refine cg fun V hV_V=> ?_
  have hF:=Fr.refl (noX) O w
  refine nef0 hV_V hA hF ?_;clear hA hF;intro z_V hA hF
  clear hV_V
  refine rC (wRow_calls _ _ hA) fun W1 hb_W1=> ?_
  refine bef0 hb_W1 hA hF ?_;clear hb_W1 hA hF;intro z_W1 hA hF
  unfold Nd.val
  go_wp2_with fail
  refine cg fun V1 hV_V1=> ?_
  refine nnf0 hV_V1 hA hF ?_;clear hA hF;intro hn_V1 z_V1 hA hF
  obtain ⟨kn,c_kn,o_kn,l_knV1⟩:=nN hn_V1 hV_V1 (W1.heap.size)
  clear hV_V1 hn_V1
  refine rC (bGet_calls _ _ o Ho.out _ hA) fun W9 hb_W9=> ?_
  refine bef1 hb_W9 hA hF kn ?_;clear hb_W9 hA hF kn c_kn;intro z_W9 hA hF kn c_kn
  rw [ho1]
  go_wp2_with fail
  refine wg fun V2 hV_V2=> ?_
  refine nnf1 hV_V2 hA hF kn ?_;clear hA hF kn c_kn;intro hn_V2 z_V2 hA hF kn c_kn
  obtain ⟨kx,c_kx,o_kx,l_kxV2⟩:=nN hn_V2 hV_V2 (W9.heap.size)
  clear hV_V2 hn_V2
  refine dr (fun v=>Sm v V2 (W1.heap.size)∧Sm v V2 (W9.heap.size)∧(V2.heap.size≤v.heap.size)∧True) ⟨fun _=>rfl,fun _=>rfl,Nat.le_refl _,trivial⟩ fun V2d hV_V2d hHeld=> ?_
  have v_kn:=c_kn.1;have v_kx:=c_kx.1
  refine nef2 hV_V2d hA hF kn kx ?_;clear hA hF kn kx c_kn c_kx;intro z_V2d hA hF kn c_kn kx c_kx
  clear hV_V2d
  refine ta 0 hHeld ?_
  refine ta 1 hHeld ?_
  refine ta 2 hHeld ?_
  refine ta 4 hHeld ?_
  refine ta 5 hHeld ?_
  refine ta 6 hHeld ?_
  refine ta 7 hHeld ?_
  refine ta 8 hHeld ?_
  refine ta 9 hHeld ?_
  refine ta 11 hHeld ?_
  refine ta 12 hHeld ?_
  refine rd 3 rfl fun K hK=> ?_
  go_simp
  try simp only [IntWalk.i64_left]
  refine rC (wKid_calls (s.get h) one _) fun W2 hb_W2=> ?_
  refine bef2 hb_W2 hA hF kn kx ?_;clear hb_W2 hA hF kn kx c_kn c_kx;intro z_W2 hA hF kn c_kn kx c_kx
  refine ho hK ⟨vv c_kn v_kn,vv c_kx v_kx,by omega,trivial⟩ fun hHeld=> ?_
  clear hK K
  refine rd 10 rfl fun K hK=> ?_
  go_simp
  try simp only [IntWalk.i64_left]
  refine rC (wAlike_calls _ _ _ _ Hj.out _ hA) fun W3 hb_W3=> ?_
  refine bef2 hb_W3 hA hF kn kx ?_;clear hb_W3 hA hF kn kx c_kn c_kx;intro z_W3 hA hF kn c_kn kx c_kx
  refine ho hK ⟨vv c_kn v_kn,vv c_kx v_kx,by omega,trivial⟩ fun hHeld=> ?_
  clear hK K
  refine rd 13 rfl fun K hK=> ?_
  go_simp
  try simp only [IntWalk.i64_left]
  refine wC (ih.out _ _ rfl hA) fun W4 O1 hA_W4 hf_W4=> ?_
  refine wif2 hf_W4 hF kn o_kn kx o_kx ?_;clear hA hF kn o_kn kx o_kx c_kn c_kx hf_W4;intro z_W4 hF kn c_kn o_kn kx c_kx o_kx;have hA:=hA_W4;clear hA_W4
  refine ho hK ⟨vv c_kn v_kn,vv c_kx v_kx,by omega,trivial⟩ fun hHeld=> ?_
  clear hK K
  refine ta 14 hHeld ?_
  refine ta 15 hHeld ?_
  refine ta 16 hHeld ?_
  refine rd 17 rfl fun K hK=> ?_
  go_simp
  refine ho hK hHeld fun hHeld=> ?_
  clear hK K
  refine rd 18 rfl fun K hK=> ?_
  go_simp
  refine ho hK hHeld fun hHeld=> ?_
  clear hK K
  refine wd ?_
  go_wp2_with fail
  go_ret2
  rw [Hr.out]
  exact ⟨rfl,O1,hA,hF⟩
theorem wCut_end (s : Ar) (O : Nat → Prop) (h i : Int) (w : World) (hA : AP w ap s O) :
    Calls Tryz.prog 290 #[ap, .int .i64 h, .int .i64 i, .int .i64 9] w fun e w'=>e= .returned (.tuple #[.int .i64 0, .int .i64 0])∧Did noX ap s O w w':=by
  go_enter Tryz.func290,Tryz.ntmps290
  go_wp2_with fail
  go_ret2
  exact ⟨rfl,O,hA,Fr.refl _ _ _⟩
theorem wCut_calls : ∀ (d : Nat) (hd : d ≤ 9) (s : Ar) (O : Nat → Prop) (h i l : Int) (hl : l = 9 - (d : Int)) (r : Int × Int × Ar) (hr : wCutG d s h i = some r) (w : World) (hA : AP w ap s O),
    Calls Tryz.prog 290 #[ap, .int .i64 h, .int .i64 i, .int .i64 l] w fun e w'=>e= .returned (.tuple #[.int .i64 r.1, .int .i64 r.2.1])∧Did noX ap r.2.2 O w w'
  | 0,hd,s,O,h,i,l,hl,r,hr,w,hA=>by
    obtain rfl:l=9:=by simpa using hl
    unfold wCutG at hr
    obtain rfl:=Option.some.inj hr
    exact wCut_end s O h i w hA
  | d+1,hd,s,O,h,i,l,hl,r,hr,w,hA=>by
    unfold wCutG at hr
    obtain ⟨o,ho,hr⟩:=Option.bind_eq_some_iff.1 hr
    obtain ⟨j,hj,hr⟩:=Option.bind_eq_some_iff.1 hr
    obtain ⟨u,hu,hr⟩:=Option.bind_eq_some_iff.1 hr
    have hl':l=8 - (d:Int):=by omega
    have hw:wrap64 (l+1)=9 - (d:Int):=by rw [IntWalk.wrap64_in _ (by omega)];omega
    have ih:Hid (∀(l':Int) (w:World),l'=wrap64 (l+1)→AP w ap s O→Calls Tryz.prog 290 #[ap, .int .i64 ((s.get h).kid o.1), .int .i64 j, .int .i64 l'] w fun e w'=>e= .returned (.tuple #[.int .i64 u.1, .int .i64 u.2.1])∧Did noX ap u.2.2 O w w'):=by
      refine Lib.hid fun l' w hl2 hA=> ?_
      exact wCut_calls d (by omega) s O _ j l' (by rw [hl2,hw]) u hu w hA
    by_cases he:u.2.1=0
    · rw [if_pos he] at hr
      obtain ⟨v,hv,hr⟩:=Option.bind_eq_some_iff.1 hr
      have hr:=(Option.some.inj hr).symm
      exact wCut_step d hd s O h i l hl r w o _ ho rfl j hj u he v hv hr ih hA
    · rw [if_neg he] at hr
      have hr:=(Option.some.inj hr).symm
      exact wCut_err d hd s O h i l hl r w o _ ho rfl j hj u he hr ih hA
theorem wDelete_calls (s : Ar) (O : Nat → Prop) (h i : Int) (r : Int × Int × Ar) (hr : wDelG s h i = some r) (w : World) (hA : AP w ap s O) :
    Calls Tryz.prog 234 #[ap, .int .i64 h, .int .i64 i] w fun e w'=>e= .returned (.tuple #[.int .i64 r.1, .int .i64 r.2.1])∧Did noX ap r.2.2 O w w':=by
  unfold wDelG at hr
  by_cases h1:i<0
  · have d1:decide (i<0)=true:=by simpa using h1
    rw [if_pos (.inl h1)] at hr
    obtain rfl:=Option.some.inj hr
    clear hr h1
    go_enter Tryz.func234,Tryz.ntmps234
    go_wp2_with fail
    go_ret2
    exact ⟨rfl,O,hA,Fr.refl _ _ _⟩
  · have d1:decide (i<0)=false:=by simpa using h1
    by_cases h2:wLen s h≤i
    · have d2:decide (wLen s h≤i)=true:=by simpa using h2
      rw [if_pos (.inr h2)] at hr
      obtain rfl:=Option.some.inj hr
      clear hr h1 h2
      go_enter Tryz.func234,Tryz.ntmps234
      go_wp2_with fail
      refine cg fun V1 hV_V1=> ?_
      have hF:=Fr.refl (noX) O w
      refine nef0 hV_V1 hA hF ?_;clear hA hF;intro z_V1 hA hF
      clear hV_V1
      refine rC (wLen_calls _ _ hA) fun W2 hb_W2=> ?_
      refine bef0 hb_W2 hA hF ?_;clear hb_W2 hA hF;intro z_W2 hA hF
      go_wp2_with fail
      go_ret2
      exact ⟨rfl,O,hA,hF⟩
    · have d2:decide (wLen s h≤i)=false:=by simpa using h2
      rw [if_neg (by omega)] at hr
      have Hr:=Lib.hid hr
      clear hr h1 h2
      go_enter Tryz.func234,Tryz.ntmps234
      go_wp2_with fail
      refine cg fun V1 hV_V1=> ?_
      have hF:=Fr.refl (noX) O w
      refine nef0 hV_V1 hA hF ?_;clear hA hF;intro z_V1 hA hF
      clear hV_V1
      refine rC (wLen_calls _ _ hA) fun W2 hb_W2=> ?_
      refine bef0 hb_W2 hA hF ?_;clear hb_W2 hA hF;intro z_W2 hA hF
      go_wp2_with fail
      refine cg fun V2 hV_V2=> ?_
      refine nef0 hV_V2 hA hF ?_;clear hA hF;intro z_V2 hA hF
      clear hV_V2
      refine wC (wCut_calls 9 (Nat.le_refl _) s O h i 0 rfl r Hr.out _ hA) fun W3 O1 hA_W3 hf_W3=> ?_
      refine wif0 hf_W3 hF ?_;clear hA hF hf_W3;intro z_W3 hF;have hA:=hA_W3;clear hA_W3
      go_wp2_with fail
      go_ret2
      exact ⟨rfl,O1,hA,hF⟩
end
section
open Go.RowKit
attribute [local go_sem ↓] Go.wp_at_zero Go.wp_at_succ
attribute [local go_sem] lt_s2 lt_s3 lt_s4
variable {ap : Value} {O : Nat → Prop} {s : Ar} {tb : Nat}
theorem lDel1_calls (tb:Nat):OneC tb ap (fun _ _=>True) 291 #[] (fun t _=>some (0,t)):=by
  intro t O h r w hr hT _
  obtain rfl:=Option.some.inj hr
  clear hr
  show Calls Tryz.prog 291 #[.int .i64 h] w _
  go_enter Tryz.func291,Tryz.ntmps291
  go_wp2_with fail
  go_ret
  exact ⟨rfl,O,hT,Fr.refl _ _ _⟩
theorem lDel1_fun (args:Array Value) (w:World):(callFunc 291 args).run Tryz.prog w= .ok (.enter 291 args) w:=by kernel_rfl
theorem lDel1_keep (tb:Nat):KeepC tb (fun _ _=>True):=fun _ _ _ _ _ _=>trivial
theorem lDelete_calls (h i : Int) (r : Int × Int × Ar) (hr : lDelete s h i = some r) (w : World) (hA : AP w ap s O) :
    Calls Tryz.prog 235 #[ap, .int .i64 h, .int .i64 i] w fun e w'=>e= .returned (.tuple #[.int .i64 r.1, .int .i64 r.2.1])∧Did noX ap r.2.2 O w w':=by
  obtain ⟨q,rfl⟩:=hA.ptr
  unfold lDelete at hr
  by_cases h1:i<0
  · have d1:decide (i<0)=true:=by simpa using h1
    rw [if_pos (.inl h1)] at hr
    obtain rfl:=Option.some.inj hr
    clear hr h1
    go_enter Tryz.func235,Tryz.ntmps235
    go_wp2_with fail
    go_ret2
    exact ⟨rfl,O,hA,Fr.refl _ _ _⟩
  · have d1:decide (i<0)=false:=by simpa using h1
    by_cases h2:lLen s h≤i
    · have d2:decide (lLen s h≤i)=true:=by simpa using h2
      rw [if_pos (.inr h2)] at hr
      obtain rfl:=Option.some.inj hr
      clear hr h1 h2
      go_enter Tryz.func235,Tryz.ntmps235
      go_wp2_with fail
      refine cg fun V hV_V=> ?_
      have hF:=Fr.refl (noX) O w
      refine nef0 hV_V hA hF ?_;clear hA hF;intro z_V hA hF
      clear hV_V
      refine rC (lLen_calls _ _ hA) fun W1 hb_W1=> ?_
      refine bef0 hb_W1 hA hF ?_;clear hb_W1 hA hF;intro z_W1 hA hF
      go_wp2_with fail
      go_ret2
      exact ⟨rfl,O,hA,hF⟩
    · have d2:decide (lLen s h≤i)=false:=by simpa using h2
      rw [if_neg (by omega)] at hr
      obtain ⟨u,hu,rfl⟩:=Option.map_eq_some_iff.1 hr
      have Hu:=Lib.hid hu
      clear hr hu h1 h2
      go_enter Tryz.func235,Tryz.ntmps235
      go_wp2_with fail
      refine cg fun V hV_V=> ?_
      have hF:=Fr.refl (noX) O w
      refine nef0 hV_V hA hF ?_;clear hA hF;intro z_V hA hF
      clear hV_V
      refine rC (lLen_calls _ _ hA) fun W1 hb_W1=> ?_
      refine bef0 hb_W1 hA hF ?_;clear hb_W1 hA hF;intro z_W1 hA hF
      go_wp2_with fail
      refine cg fun V1 hV_V1=> ?_
      refine nnf0 hV_V1 hA hF ?_;clear hA hF;intro hn_V1 z_V1 hA hF
      obtain ⟨kt,c_kt,o_kt,l_ktV1⟩:=nN hn_V1 hV_V1 (W1.heap.size)
      clear hV_V1 hn_V1
      refine tC (lChange_calls lDel1_fun (Lib.hid (lDel1_keep W1.heap.size)) (Lib.hid (lDel1_calls W1.heap.size)) rounds ⟨s,0⟩ _ _ _ u _ Hu.out ⟨hA,kt,o_kt⟩ trivial) fun W2 O1 hT hf=> ?_
      refine tn0 hT.hA hT.blk hT.no hf hF ?_;clear hA hF kt c_kt o_kt hT hf;intro z_W2 hA hF kt c_kt o_kt
      go_wp2_with fail
      refine cg fun V2 hV_V2=> ?_
      refine nef1 hV_V2 hA hF kt ?_;clear hA hF kt c_kt;intro z_V2 hA hF kt c_kt
      clear hV_V2
      refine tC (lTold_calls (t:=u.2) u.1 _ ⟨hA,kt,o_kt⟩) fun W3 O2 hT hf=> ?_
      refine tn0 hT.hA hT.blk hT.no hf hF ?_;clear hA hF kt c_kt o_kt hT hf;intro z_W3 hA hF kt c_kt o_kt
      go_wp2_with fail
      go_ret2
      refine ⟨rfl,O2,?_,hF⟩
      rw [told_s];exact hA
theorem tCutT_calls (h id : Int) (l : List (Int × Int)) (hl : lAll s h = some l) (hll : l.length ≤ 50000) (r : Int × Int × Ar) (hr : tCut s h id = some r) (w : World) (hA : AP w ap s O) :
    Calls Tryz.prog 155 #[ap, .int .i64 h, .int .i64 id] w fun e w'=>e= .returned (.tuple #[.int .i64 r.1, .int .i64 r.2.1])∧Did noX ap r.2.2 O w w':=by
  unfold tCut tPlace at hr
  rw [hl,Option.map_some,Option.bind_some] at hr
  obtain ⟨p,hp⟩: ∃p,placeIn id l 0=p:=⟨_,rfl⟩
  rw [hp] at hr
  have Hp:=Lib.hid hp;have Hl:=Lib.hid hl
  obtain ⟨k,is⟩:=p
  clear hp hl
  cases is with
  | true=>
    rw [if_pos rfl] at hr
    have Hr:=Lib.hid hr
    clear hr
    go_enter Tryz.func155,Tryz.ntmps155
    go_wp2_with fail
    refine cg fun V hV_V=> ?_
    have hF:=Fr.refl (noX) O w
    refine nef0 hV_V hA hF ?_;clear hA hF;intro z_V hA hF
    clear hV_V
    refine rC (tPlace_calls _ _ l Hl.out hll _ hA) fun W1 hb_W1=> ?_
    refine bef0 hb_W1 hA hF ?_;clear hb_W1 hA hF;intro z_W1 hA hF
    rw [Hp.out]
    go_wp2_with fail
    refine cg fun V1 hV_V1=> ?_
    refine nef0 hV_V1 hA hF ?_;clear hA hF;intro z_V1 hA hF
    clear hV_V1
    refine wC (lDelete_calls h k r Hr.out _ hA) fun W2 O1 hA_W2 hf_W2=> ?_
    refine wif0 hf_W2 hF ?_;clear hA hF hf_W2;intro z_W2 hF;have hA:=hA_W2;clear hA_W2
    go_wp2_with fail
    go_ret2
    exact ⟨rfl,O1,hA,hF⟩
  | false=>
    rw [if_neg (by simp)] at hr
    obtain rfl:=Option.some.inj hr
    clear hr
    go_enter Tryz.func155,Tryz.ntmps155
    go_wp2_with fail
    refine cg fun V hV_V=> ?_
    have hF:=Fr.refl (noX) O w
    refine nef0 hV_V hA hF ?_;clear hA hF;intro z_V hA hF
    clear hV_V
    refine rC (tPlace_calls _ _ l Hl.out hll _ hA) fun W1 hb_W1=> ?_
    refine bef0 hb_W1 hA hF ?_;clear hb_W1 hA hF;intro z_W1 hA hF
    rw [Hp.out]
    go_wp2_with fail
    go_ret2
    exact ⟨rfl,O,hA,hF⟩
end
section
open Go.RowKit Go.Sort
attribute [local go_sem ↓] Go.wp_at_zero Go.wp_at_succ
attribute [local go_sem] lt_s2 lt_s3 lt_s4 str_len
variable {ap : Value} {O : Nat → Prop} {tb : Nat} {A : Option Addr} {cap : Nat}
theorem last_of {l:List Int} {m:Nat} (h:l.length=m+1):l[m]? =some (l.getLastD 0)∧l.dropLast.length=m∧l.take m=l.dropLast:=by
  have hne:l≠[]:=fun e=>by rw [e] at h;simp at h
  refine ⟨?_,by rw [List.length_dropLast,h];rfl,by rw [List.dropLast_eq_take,h];rfl⟩
  rw [List.getLastD_eq_getLast?,List.getLast?_eq_getElem?,h]
  simp only [Nat.add_sub_cancel]
  rw [List.getElem?_eq_getElem (by omega)];rfl
theorem swap_rows (x:Ct) (i:Nat) (r:Int×Int×Ar):(x.swap i r).2.rows=x.rows∧(x.swap i r).2.place=x.place:=by
  unfold Ct.swap;split<;>exact ⟨rfl,rfl⟩
theorem didr_less {x y:Ct} {g m:Nat} {w w':World} {O':Nat→Prop} (hR:RB w tb x.rows O (some ⟨g,0,none⟩) cap) (hC:CB w' tb ap y O' (some ⟨g,0,none⟩) cap) (hF:Fr (oneX tb) O O' w w') (hy:y.rows=x.rows.take m) (hm:m≤x.rows.length):DidR tb ap y O (some ⟨g,0,none⟩) w w':=by
  have h2:=hR.keep hF
  refine ⟨O',_,cap,hC,⟨?_,h2.no⟩,hF.mono fun k hk=> .inl hk,fun a ha=> .inl ⟨a,ha,rfl⟩⟩
  obtain ⟨cur,a,b,c,d,e,f⟩:=own_parts h2.own
  have hl:(x.rows.take m).length=m:=by rw [List.length_take];omega
  rw [hy,hl]
  refine ⟨by rw [List.length_map,hl];omega, .inr ⟨g,cap,cur,rfl,a,b,by omega,d,e,?_⟩⟩
  rw [List.map_take,←f,List.take_take,show min m (x.rows.length*1)=m*1 by omega]
theorem cTake_calls (x : Ct) (r : Int × Ct) (hr : x.take = some r) (hne : x.rows ≠ []) (hl : x.rows.length ≤ 500) (w : World) (hT : CB w tb ap x O A cap) (hR : RB w tb x.rows O A cap) :
    Calls Tryz.prog 154 #[.pointer (some ⟨tb,0,none⟩)] w fun e w'=>e= .returned (.int .i64 r.1)∧DidR tb ap r.2 O A w w':=by
  obtain ⟨m,hm⟩: ∃m,x.rows.length=m+1:=⟨x.rows.length - 1,by have:=List.length_pos_iff.2 hne;omega⟩
  obtain ⟨g,hA0, -⟩:=own_some hR.own (by omega)
  subst hA0
  obtain ⟨r1,hr1,hr⟩:=Option.bind_eq_some_iff.1 hr
  have HR:=Lib.hid hR;have HR1:=Lib.hid hr1;have HRR:=Lib.hid hr;have HT:=Lib.hid hT
  obtain ⟨hlast,hdl,htk⟩:=last_of hm
  have hw1:wrap64 (((m+1:Nat):Int) - 1)=(m:Int):=by rw [IntWalk.wrap64_in _ (by omega)];omega
  have hcell:w.cell? ⟨g,m,none⟩=some (.int .i64 x.last):=by
    rw [hR.own.cellAt m (by omega)]
    rw [List.getElem?_map,hlast];rfl
  obtain ⟨row,hrow⟩: ∃row,x.last=row:=⟨_,rfl⟩
  rw [hrow] at hcell
  have HROW:=Lib.hid hrow;have HDL:=Lib.hid hdl;have HTK:=Lib.hid htk;have HM:=Lib.hid hm
  clear hR hr1 hr hlast hdl htk hrow hne
  go_enter Tryz.func154,Tryz.ntmps154
  have hA:=hT.hA
  have kt:=hT.blk
  have o_kt:=hT.no
  have c_kt:=f3 kt;have l_ktw:=lt_of kt
  rw [hm] at kt c_kt
  have hcapm:m+1≤cap:=by obtain ⟨cur, -, -,h1, -⟩:=own_parts HR.out.own;rw [HM.out] at h1;exact h1
  go_wp2_with fail
  refine wg fun V hV_V=> ?_
  have hF:=Fr.refl ((oneX tb)) O w
  refine nef1 hV_V hA hF kt ?_;clear hA hF kt c_kt;intro z_V hA hF kt c_kt
  clear hV_V
  refine dr (fun v=>(v.cell? ⟨tb,0,none⟩=V.cell? ⟨tb,0,none⟩)∧(v.cell? ⟨tb,6,none⟩=V.cell? ⟨tb,6,none⟩)∧(V.heap.size≤v.heap.size)∧True) ⟨rfl,rfl,Nat.le_refl _,trivial⟩ fun Vd hV_Vd hHeld=> ?_
  have v_kt:=c_kt.1
  refine nef1 hV_Vd hA hF kt ?_;clear hA hF kt c_kt;intro z_Vd hA hF kt c_kt
  clear hV_Vd
  refine ta 0 hHeld ?_
  refine ta 1 hHeld ?_
  refine ta 2 hHeld ?_
  refine ta 3 hHeld ?_
  refine ta 4 hHeld ?_
  refine ta 5 hHeld ?_
  refine ta 6 hHeld ?_
  refine ta 7 hHeld ?_
  refine ta 8 hHeld ?_
  refine ta 9 hHeld ?_
  refine rd 10 rfl fun K hK=> ?_
  go_simp
  try simp only [IntWalk.i64_left]
  refine wC (wDelete_calls _ _ x.p.wave row r1 (by rw [←HROW.out];exact HR1.out) _ hA) fun W O1 hA_W hf_W=> ?_
  refine wif1 hf_W hF kt o_kt ?_;clear hA hF kt o_kt c_kt hf_W;intro z_W hF kt c_kt o_kt;have hA:=hA_W;clear hA_W
  refine ho hK ⟨vo c_kt v_kt 0,vo c_kt v_kt 6,by omega,trivial⟩ fun hHeld=> ?_
  clear hK K
  refine ta 11 hHeld ?_
  refine ta 12 hHeld ?_
  refine ta 13 hHeld ?_
  refine rd 14 rfl fun K hK=> ?_
  go_simp
  refine ho hK hHeld fun hHeld=> ?_
  clear hK K
  refine rd 15 rfl fun K hK=> ?_
  go_simp
  refine ho hK hHeld fun hHeld=> ?_
  clear hK K
  refine wd ?_
  go_wp2_with fail
  refine cg fun V2 hV_V2=> ?_
  refine nef1 hV_V2 hA hF kt ?_;clear hA hF kt c_kt;intro z_V2 hA hF kt c_kt
  clear hV_V2
  obtain ⟨⟨e1,y1⟩,hy1⟩: ∃p,x.less.swap 0 r1=p:=⟨_,rfl⟩
  have hrr:=HRR.out
  rw [hy1] at hrr
  dsimp only at hrr
  have hrw1:y1.rows=x.rows.dropLast:=by have:=(swap_rows x.less 0 r1).1;rw [hy1] at this;exact this
  have hrl1:y1.rows.length=m:=by rw [hrw1];exact HDL.out
  have hc1:=cSwap_calls (A:=some ⟨g,0,none⟩) (cap:=cap) x.less 0 (by omega) r1 _ ⟨hA,(by
    show _=some (Obj.cells #[ap, .int .i64 x.src, .int .i64 x.id, .int .i64 x.length, .int .i64 x.place, .slice (some ⟨g,0,none⟩) x.rows.dropLast.length cap, .int .i64 x.p.wave, .int .i64 x.p.marks, .int .i64 x.p.spots, .int .i64 x.p.table, .bool x.owns, .bool x.over, .int .i64 x.root] 197 (0,0))
    rw [HDL.out];exact kt),o_kt⟩
  rw [hy1] at hc1
  refine tC (hc1) fun W2 O2 hT hf=> ?_
  refine ti0 hT.hA hT.blk hT.no hf hF ?_;clear hA hF kt c_kt o_kt hT hf;intro z_W2 hA hF kt c_kt o_kt
  by_cases h0:e1=0
  · subst h0
    rw [if_pos rfl] at hrr
    obtain ⟨q,hq,hrr⟩:=Option.bind_eq_some_iff.1 hrr
    rw [HROW.out] at hq hrr
    have HQ:=Lib.hid hq;have Hrr0:=Lib.hid hrr
    have HRW1:=Lib.hid hrw1
    clear hq hrr hy1 HRR hrl1 hrw1
    go_wp2_with fail
    refine wg fun V3 hV_V3=> ?_
    refine nef1 hV_V3 hA hF kt ?_;clear hA hF kt c_kt;intro z_V3 hA hF kt c_kt
    clear hV_V3
    refine dr (fun v=>Sm v V3 (tb)∧(V3.heap.size≤v.heap.size)∧AP v ap (y1).s O2) ⟨fun _=>rfl,Nat.le_refl _,hA.drew⟩ fun V3d hV_V3d hHeld=> ?_
    have v_kt:=c_kt.1
    refine nef1 hV_V3d hA hF kt ?_;clear hA hF kt c_kt;intro z_V3d hA hF kt c_kt
    clear hV_V3d
    refine ta 0 hHeld ?_
    refine ta 1 hHeld ?_
    refine ta 2 hHeld ?_
    refine ta 3 hHeld ?_
    refine ta 4 hHeld ?_
    refine ta 5 hHeld ?_
    refine ta 6 hHeld ?_
    refine ta 7 hHeld ?_
    refine ta 8 hHeld ?_
    refine ta 9 hHeld ?_
    refine rd 10 rfl fun K hK=> ?_
    go_simp
    try simp only [IntWalk.i64_left]
    refine rC (bGet_calls y1.p.marks row q HQ.out _ hA) fun W3 hb_W3=> ?_
    refine bef1 hb_W3 hA hF kt ?_;clear hb_W3 hA hF kt c_kt;intro z_W3 hA hF kt c_kt
    refine ho hK ⟨vv c_kt v_kt,by omega,hA⟩ fun hHeld=> ?_
    clear hK K
    refine ta 11 hHeld ?_
    refine ta 12 hHeld ?_
    refine ta 13 hHeld ?_
    refine rd 14 rfl fun K hK=> ?_
    go_simp
    refine ho hK hHeld fun hHeld=> ?_
    clear hK K
    refine rd 15 rfl fun K hK=> ?_
    go_simp
    refine ho hK hHeld fun hHeld=> ?_
    clear hK K
    refine wd ?_
    obtain ⟨q1,q2⟩:=q
    cases q1 with
    | false=>
      have hrr:=Hrr0.out
      rw [if_neg Bool.false_ne_true] at hrr
      obtain ⟨r3,hr3,hrr⟩:=Option.map_eq_some_iff.1 hrr
      have H3:=Lib.hid hr3;have Hrr:=Lib.hid hrr
      clear hr3 hrr Hrr0
      go_wp2_with fail
      refine wg fun V6 hV_V6=> ?_
      refine nef1 hV_V6 hA hF kt ?_;clear hA hF kt c_kt;intro z_V6 hA hF kt c_kt
      clear hV_V6
      refine dr (fun v=>(v.cell? ⟨tb,0,none⟩=V6.cell? ⟨tb,0,none⟩)∧(v.cell? ⟨tb,7,none⟩=V6.cell? ⟨tb,7,none⟩)∧(V6.heap.size≤v.heap.size)∧True) ⟨rfl,rfl,Nat.le_refl _,trivial⟩ fun V6d hV_V6d hHeld=> ?_
      have v_kt:=c_kt.1
      refine nef1 hV_V6d hA hF kt ?_;clear hA hF kt c_kt;intro z_V6d hA hF kt c_kt
      clear hV_V6d
      refine ta 0 hHeld ?_
      refine ta 1 hHeld ?_
      refine ta 2 hHeld ?_
      refine ta 3 hHeld ?_
      refine ta 4 hHeld ?_
      refine ta 5 hHeld ?_
      refine ta 6 hHeld ?_
      refine ta 7 hHeld ?_
      refine ta 8 hHeld ?_
      refine ta 9 hHeld ?_
      refine rd 10 rfl fun K hK=> ?_
      go_simp
      try simp only [IntWalk.i64_left]
      refine wC (bDelete_calls y1.p.marks row r3 H3.out _ hA) fun W6 O6 hA_W6 hf_W6=> ?_
      refine wif1 hf_W6 hF kt o_kt ?_;clear hA hF kt o_kt c_kt hf_W6;intro z_W6 hF kt c_kt o_kt;have hA:=hA_W6;clear hA_W6
      refine ho hK ⟨vo c_kt v_kt 0,vo c_kt v_kt 7,by omega,trivial⟩ fun hHeld=> ?_
      clear hK K
      refine ta 11 hHeld ?_
      refine ta 12 hHeld ?_
      refine ta 13 hHeld ?_
      refine rd 14 rfl fun K hK=> ?_
      go_simp
      refine ho hK hHeld fun hHeld=> ?_
      clear hK K
      refine rd 15 rfl fun K hK=> ?_
      go_simp
      refine ho hK hHeld fun hHeld=> ?_
      clear hK K
      refine wd ?_
      go_wp2_with fail
      refine cg fun V7 hV_V7=> ?_
      refine nef1 hV_V7 hA hF kt ?_;clear hA hF kt c_kt;intro z_V7 hA hF kt c_kt
      clear hV_V7
      obtain ⟨⟨e3,y3⟩,hy3⟩: ∃p,y1.swap 1 r3=p:=⟨_,rfl⟩
      have hrw3:y3.rows=y1.rows:=by have:=(swap_rows y1 1 r3).1;rw [hy3] at this;exact this
      have hc3:=cSwap_calls y1 1 (by omega) r3 _ ⟨hA,kt,o_kt⟩
      rw [hy3] at hc3
      refine tC (hc3) fun W7 O7 hT hf=> ?_
      refine ti0 hT.hA hT.blk hT.no hf hF ?_;clear hA hF kt c_kt o_kt hT hf;intro z_W7 hA hF kt c_kt o_kt
      go_wp2_with fail
      go_ret
      have hrr:=Hrr.out
      subst hrr
      rw [hy3]
      exact ⟨rfl,didr_less HR.out ⟨hA,kt,o_kt⟩ hF (by rw [hrw3,HRW1.out,HTK.out]) (by omega)⟩
    | true=>
      have hrr:=Hrr0.out
      rw [if_pos rfl] at hrr
      obtain ⟨j,hj,hrr⟩:=Option.bind_eq_some_iff.1 hrr
      obtain ⟨r2,hr2,hrr⟩:=Option.bind_eq_some_iff.1 hrr
      have HJ:=Lib.hid hj;have HR2:=Lib.hid hr2;have Hrr1:=Lib.hid hrr
      clear hj hr2 hrr Hrr0
      go_wp2_with fail
      refine wg fun V4 hV_V4=> ?_
      refine nef1 hV_V4 hA hF kt ?_;clear hA hF kt c_kt;intro z_V4 hA hF kt c_kt
      clear hV_V4
      refine dr (fun v=>(v.cell? ⟨tb,0,none⟩=V4.cell? ⟨tb,0,none⟩)∧(v.cell? ⟨tb,7,none⟩=V4.cell? ⟨tb,7,none⟩)∧(v.cell? ⟨tb,8,none⟩=V4.cell? ⟨tb,8,none⟩)∧(V4.heap.size≤v.heap.size)∧True) ⟨rfl,rfl,rfl,Nat.le_refl _,trivial⟩ fun V4d hV_V4d hHeld=> ?_
      have v_kt:=c_kt.1
      refine nef1 hV_V4d hA hF kt ?_;clear hA hF kt c_kt;intro z_V4d hA hF kt c_kt
      clear hV_V4d
      refine ta 0 hHeld ?_
      refine ta 1 hHeld ?_
      refine ta 2 hHeld ?_
      refine ta 3 hHeld ?_
      refine ta 4 hHeld ?_
      refine ta 5 hHeld ?_
      refine ta 6 hHeld ?_
      refine ta 7 hHeld ?_
      refine ta 8 hHeld ?_
      refine ta 9 hHeld ?_
      refine ta 10 hHeld ?_
      refine ta 11 hHeld ?_
      refine ta 12 hHeld ?_
      refine ta 13 hHeld ?_
      refine ta 14 hHeld ?_
      refine ta 15 hHeld ?_
      refine ta 16 hHeld ?_
      refine ta 17 hHeld ?_
      refine ta 18 hHeld ?_
      refine rd 19 rfl fun K hK=> ?_
      go_simp
      try simp only [IntWalk.i64_left]
      refine rC (bRank_calls y1.p.marks row j HJ.out _ hA) fun W4 hb_W4=> ?_
      refine bef1 hb_W4 hA hF kt ?_;clear hb_W4 hA hF kt c_kt;intro z_W4 hA hF kt c_kt
      refine ho hK ⟨vo c_kt v_kt 0,vo c_kt v_kt 7,vo c_kt v_kt 8,by omega,trivial⟩ fun hHeld=> ?_
      clear hK K
      refine rd 20 rfl fun K hK=> ?_
      go_simp
      try simp only [IntWalk.i64_left]
      refine wC (lDelete_calls y1.p.spots j r2 HR2.out _ hA) fun W5 O5 hA_W5 hf_W5=> ?_
      refine wif1 hf_W5 hF kt o_kt ?_;clear hA hF kt o_kt c_kt hf_W5;intro z_W5 hF kt c_kt o_kt;have hA:=hA_W5;clear hA_W5
      refine ho hK ⟨vo c_kt v_kt 0,vo c_kt v_kt 7,vo c_kt v_kt 8,by omega,trivial⟩ fun hHeld=> ?_
      clear hK K
      refine ta 21 hHeld ?_
      refine ta 22 hHeld ?_
      refine ta 23 hHeld ?_
      refine rd 24 rfl fun K hK=> ?_
      go_simp
      refine ho hK hHeld fun hHeld=> ?_
      clear hK K
      refine rd 25 rfl fun K hK=> ?_
      go_simp
      refine ho hK hHeld fun hHeld=> ?_
      clear hK K
      refine wd ?_
      go_wp2_with fail
      refine cg fun V5 hV_V5=> ?_
      refine nef1 hV_V5 hA hF kt ?_;clear hA hF kt c_kt;intro z_V5 hA hF kt c_kt
      clear hV_V5
      obtain ⟨⟨e2,y2⟩,hy2⟩: ∃p,y1.swap 2 r2=p:=⟨_,rfl⟩
      have hrr:=Hrr1.out
      rw [hy2] at hrr
      dsimp only at hrr
      have hrw2:y2.rows=y1.rows:=by have:=(swap_rows y1 2 r2).1;rw [hy2] at this;exact this
      have hc2:=cSwap_calls y1 2 (by omega) r2 _ ⟨hA,kt,o_kt⟩
      rw [hy2] at hc2
      have HRW2:=Lib.hid hrw2
      clear hrw2 Hrr1
      refine tC (hc2) fun W8 O8 hT hf=> ?_
      refine ti0 hT.hA hT.blk hT.no hf hF ?_;clear hA hF kt c_kt o_kt hT hf;intro z_W8 hA hF kt c_kt o_kt
      by_cases h0:e2=0
      · subst h0
        rw [if_pos rfl] at hrr
        obtain ⟨r3,hr3,hrr⟩:=Option.map_eq_some_iff.1 hrr
        have H3:=Lib.hid hr3;have Hrr:=Lib.hid hrr
        clear hr3 hrr hy2
        go_wp2_with fail
        refine wg fun V6 hV_V6=> ?_
        refine nef1 hV_V6 hA hF kt ?_;clear hA hF kt c_kt;intro z_V6 hA hF kt c_kt
        clear hV_V6
        refine dr (fun v=>(v.cell? ⟨tb,0,none⟩=V6.cell? ⟨tb,0,none⟩)∧(v.cell? ⟨tb,7,none⟩=V6.cell? ⟨tb,7,none⟩)∧(V6.heap.size≤v.heap.size)∧True) ⟨rfl,rfl,Nat.le_refl _,trivial⟩ fun V6d hV_V6d hHeld=> ?_
        have v_kt:=c_kt.1
        refine nef1 hV_V6d hA hF kt ?_;clear hA hF kt c_kt;intro z_V6d hA hF kt c_kt
        clear hV_V6d
        refine ta 0 hHeld ?_
        refine ta 1 hHeld ?_
        refine ta 2 hHeld ?_
        refine ta 3 hHeld ?_
        refine ta 4 hHeld ?_
        refine ta 5 hHeld ?_
        refine ta 6 hHeld ?_
        refine ta 7 hHeld ?_
        refine ta 8 hHeld ?_
        refine ta 9 hHeld ?_
        refine rd 10 rfl fun K hK=> ?_
        go_simp
        try simp only [IntWalk.i64_left]
        refine wC (bDelete_calls y2.p.marks row r3 H3.out _ hA) fun W6 O6 hA_W6 hf_W6=> ?_
        refine wif1 hf_W6 hF kt o_kt ?_;clear hA hF kt o_kt c_kt hf_W6;intro z_W6 hF kt c_kt o_kt;have hA:=hA_W6;clear hA_W6
        refine ho hK ⟨vo c_kt v_kt 0,vo c_kt v_kt 7,by omega,trivial⟩ fun hHeld=> ?_
        clear hK K
        refine ta 11 hHeld ?_
        refine ta 12 hHeld ?_
        refine ta 13 hHeld ?_
        refine rd 14 rfl fun K hK=> ?_
        go_simp
        refine ho hK hHeld fun hHeld=> ?_
        clear hK K
        refine rd 15 rfl fun K hK=> ?_
        go_simp
        refine ho hK hHeld fun hHeld=> ?_
        clear hK K
        refine wd ?_
        go_wp2_with fail
        refine cg fun V7 hV_V7=> ?_
        refine nef1 hV_V7 hA hF kt ?_;clear hA hF kt c_kt;intro z_V7 hA hF kt c_kt
        clear hV_V7
        obtain ⟨⟨e3,y3⟩,hy3⟩: ∃p,y2.swap 1 r3=p:=⟨_,rfl⟩
        have hrw3:y3.rows=y2.rows:=by have:=(swap_rows y2 1 r3).1;rw [hy3] at this;exact this
        have hc3:=cSwap_calls y2 1 (by omega) r3 _ ⟨hA,kt,o_kt⟩
        rw [hy3] at hc3
        refine tC (hc3) fun W7 O7 hT hf=> ?_
        refine ti0 hT.hA hT.blk hT.no hf hF ?_;clear hA hF kt c_kt o_kt hT hf;intro z_W7 hA hF kt c_kt o_kt
        go_wp2_with fail
        go_ret
        have hrr:=Hrr.out
        subst hrr
        rw [hy3]
        exact ⟨rfl,didr_less HR.out ⟨hA,kt,o_kt⟩ hF (by rw [hrw3,HRW2.out,HRW1.out,HTK.out]) (by omega)⟩
      · have d1:(e2 !=0)=true:=by simpa using h0
        rw [if_neg h0] at hrr
        obtain rfl:=Option.some.inj hrr
        clear hrr hy2
        go_wp2_with fail
        go_ret
        exact ⟨rfl,didr_less HR.out ⟨hA,kt,o_kt⟩ hF (by rw [HRW2.out,HRW1.out,HTK.out]) (by omega)⟩
  · have d1:(e1 !=0)=true:=by simpa using h0
    rw [if_neg h0] at hrr
    obtain rfl:=Option.some.inj hrr
    clear hrr hy1 HRR
    go_wp2_with fail
    go_ret
    exact ⟨rfl,didr_less HR.out ⟨hA,kt,o_kt⟩ hF (by rw [hrw1,HTK.out]) (by omega)⟩
end
section
open Go.RowKit
structure CtOk (x:Ct):Prop where
  rows:x.rows.length≤500
  tab:x.owns=true→ ∀l,lAll x.s x.p.table=some l→l.length≤50000
end
section
open Go.RowKit Go.Sort
attribute [local go_sem ↓] Go.wp_at_zero Go.wp_at_succ
attribute [local go_sem] lt_s2 lt_s3 lt_s4 str_len
variable {ap : Value} {O : Nat → Prop} {tb : Nat} {A : Option Addr} {cap : Nat}
def Exit.two (l0 l1:Nat) (J0 J1:Act→World→Prop) (Q:Exit→Act→World→Prop):Exit→Act→World→Prop
  | .goto l',a,w=>(l'=l0∧J0 a w)∨(l'=l1∧J1 a w)
  | e,a,w=>Q e a w
theorem wp_scope_two {P : Program} {a : Act} {w : World} {Q : Exit → Act → World → Prop} {c r0 r1 : Code} (l0 l1 : Nat) (J0 J1 : Act → World → Prop) (hf0 : findLabel c l0 = some (Code.skip.seq r0)) (hf1 : findLabel c l1 = some (Code.skip.seq r1))
    (first:c.wp P (Exit.two l0 l1 J0 J1 Q) a w) (pass0: ∀a w,J0 a w→r0.wp P (Exit.noGoto Q) a w) (pass1: ∀a w,J1 a w→r1.wp P (Exit.noGoto Q) a w):(Code.scope c).wp P Q a w:=by
  intro b k cs
  have key: ∀(l:Nat) (r:Code),findLabel c l=some (Code.skip.seq r)→ ∀a w,r.wp P (Exit.noGoto Q) a w→ ∃rest,gotoIn l (.inScope c::k)=some rest∧ ∃e a' w',Q e a' w'∧Arrives P (lone (b.at a rest) cs w) b k cs e a' w':=by
    intro l r hf a w hr
    refine ⟨.code (Code.skip.seq r):: .inScope c::k,by simp [gotoIn,hf],?_⟩
    have hs:(Code.skip.seq r).wp P (Exit.noGoto Q) a w:=wp_seq_k fun K hK=>wp_skip (hK _ _ hr)
    obtain ⟨e,a₁,w₁,hq,harr⟩:=hs b (.inScope c::k) cs
    cases e with
    | normal=>exact ⟨.normal,a₁,w₁,hq,Steps.trans harr (.one step_inScope)⟩
    | exit id=>exact ⟨.exit id,a₁,w₁,hq,fun k' hk=>harr k' (by simp [exitTo,hk])⟩
    | goto l'=>exact hq.elim
    | ret=>exact ⟨_,a₁,w₁,hq,harr⟩
    | panic ch=>exact ⟨_,a₁,w₁,hq,harr⟩
    | outgrown=>exact ⟨_,a₁,w₁,hq,harr⟩
  obtain ⟨e,a₁,w₁,hq,harr⟩:=first b (.inScope c::k) cs
  cases e with
  | normal=>exact ⟨.normal,a₁,w₁,hq, .head step_scope (Steps.trans harr (.one step_inScope))⟩
  | exit id=>exact ⟨.exit id,a₁,w₁,hq,fun k' hk=> .head step_scope (harr k' (by simp [exitTo,hk]))⟩
  | goto l'=>
    rcases hq with ⟨rfl,hJ⟩|⟨rfl,hJ⟩
    · obtain ⟨rest,hg,e₂,a₂,w₂,hq₂,harr₂⟩:=key _ _ hf0 a₁ w₁ (pass0 _ _ hJ)
      exact ⟨e₂,a₂,w₂,hq₂, .of_steps (.head step_scope (harr _ hg)) harr₂⟩
    · obtain ⟨rest,hg,e₂,a₂,w₂,hq₂,harr₂⟩:=key _ _ hf1 a₁ w₁ (pass1 _ _ hJ)
      exact ⟨e₂,a₂,w₂,hq₂, .of_steps (.head step_scope (harr _ hg)) harr₂⟩
  | ret=>exact ⟨_,a₁,w₁,hq, .of_steps (.one step_scope) harr⟩
  | panic ch=>exact ⟨_,a₁,w₁,hq, .of_steps (.one step_scope) harr⟩
  | outgrown=>exact ⟨_,a₁,w₁,hq, .of_steps (.one step_scope) harr⟩
theorem cStep_calls (x : Ct) (hok : CtOk x) (r : Bool × Int × Ct) (hr : x.step = some r) (w : World) (hT : CB w tb ap x O A cap) (hR : RB w tb x.rows O A cap) :
    Calls Tryz.prog 54 #[.pointer (some ⟨tb,0,none⟩)] w fun e w'=>e= .returned (.tuple #[.bool r.1, .int .i64 r.2.1])∧DidR tb ap r.2.2 O A w w':=by
  have Hr:=Lib.hid hr;have HR:=Lib.hid hR;have HOK:=Lib.hid hok
  clear hr hR hok
  go_enter Tryz.func54,Tryz.ntmps54
  go_wp2_with fail
  refine wp_scope_two 0 1 (fun a' wr=>(DidR tb ap r.2.2 O A w wr∧Hid (r.1=false∧r.2.1=0))∧ ∃u1 u2 u3 u4 u5 u6 u7 u8 u9 u10 u11 u12 u13 u14 u15 u16 u17 u18 u19 u20 u21 u22 u23 u24 u25 u26 u27 u28 u29 u30 u31 u32 u33 u34 u35 u36 u37 u38 u39 u40 u41 u42 u43 u44 u45 u46 u47 u48 u49 u50 u51 u52 u53 u54 u55 u56 u57 u58 u59 u60 u61 u62 u63 u64 u65 u66 u67 u68 u69 u70 u71 u72 u73 u74 u75 u76 u77 u78:Value,a'={tmps:= #[(.pointer (some ⟨tb,0,none⟩):Value),u1,u2,u3,u4,u5,u6,u7,u8,u9,u10,u11,u12,u13,u14,u15,u16,u17,u18,u19,u20,u21,u22,u23,u24,u25,u26,u27,u28,u29,u30,u31,u32,u33,u34,u35,u36,u37,u38,u39,u40,u41,u42,u43,u44,u45,u46,u47,u48,u49,u50,u51,u52,u53,u54,u55,u56,u57,u58,u59,u60,u61,u62,u63,u64,u65,u66,u67,u68,u69,u70,u71,u72,u73,u74,u75,u76,u77,u78],defers:=[]}) (fun a' wr=> ∃e x1 O1 A1 cap1,(CB wr tb ap x1 O1 A1 cap1∧RB wr tb x1.rows O1 A1 cap1∧Fr (rX tb A) O O1 w wr∧Hid ((∀a',A1=some a'→(∃a,A=some a∧a.block=a'.block)∨w.heap.size≤a'.block)∧(true,e,x1.stop)=r))∧ ∃u1 u2 u3 u4 u6 u7 u8 u9 u10 u11 u12 u13 u14 u15 u16 u17 u18 u19 u20 u21 u22 u23 u24 u25 u26 u27 u28 u29 u30 u31 u32 u33 u34 u35 u36 u37 u38 u39 u40 u41 u42 u43 u44 u45 u46 u47 u48 u49 u50 u51 u52 u53 u54 u55 u56 u57 u58 u59 u60 u61 u62 u63 u64 u65 u66 u67 u68 u69 u70 u71 u72 u73 u74 u75 u76 u77 u78:Value,a'={tmps:= #[(.pointer (some ⟨tb,0,none⟩):Value),u1,u2,u3,u4,(.int .i64 e:Value),u6,u7,u8,u9,u10,u11,u12,u13,u14,u15,u16,u17,u18,u19,u20,u21,u22,u23,u24,u25,u26,u27,u28,u29,u30,u31,u32,u33,u34,u35,u36,u37,u38,u39,u40,u41,u42,u43,u44,u45,u46,u47,u48,u49,u50,u51,u52,u53,u54,u55,u56,u57,u58,u59,u60,u61,u62,u63,u64,u65,u66,u67,u68,u69,u70,u71,u72,u73,u74,u75,u76,u77,u78],defers:=[]}) (by rfl) (by rfl) ?first ?pass0 ?pass1
  case pass0=>
    rintro a' wr ⟨⟨hD,hq⟩,u1,u2,u3,u4,u5,u6,u7,u8,u9,u10,u11,u12,u13,u14,u15,u16,u17,u18,u19,u20,u21,u22,u23,u24,u25,u26,u27,u28,u29,u30,u31,u32,u33,u34,u35,u36,u37,u38,u39,u40,u41,u42,u43,u44,u45,u46,u47,u48,u49,u50,u51,u52,u53,u54,u55,u56,u57,u58,u59,u60,u61,u62,u63,u64,u65,u66,u67,u68,u69,u70,u71,u72,u73,u74,u75,u76,u77,u78,rfl⟩
    obtain ⟨⟨q1,q2⟩,hq⟩:_∧True:=⟨hq.out,trivial⟩
    obtain ⟨ro,re,ry⟩:=r
    dsimp only at q1 q2 hD
    subst q1 q2
    go_wp2_with fail
    try simp only [Exit.noGoto]
    go_ret2
    exact ⟨rfl,hD⟩
  case pass1=>
    rintro a' wr ⟨e,x1,O1,A1,cap1,⟨hC,hR1,hF1,hq⟩,u1,u2,u3,u4,u6,u7,u8,u9,u10,u11,u12,u13,u14,u15,u16,u17,u18,u19,u20,u21,u22,u23,u24,u25,u26,u27,u28,u29,u30,u31,u32,u33,u34,u35,u36,u37,u38,u39,u40,u41,u42,u43,u44,u45,u46,u47,u48,u49,u50,u51,u52,u53,u54,u55,u56,u57,u58,u59,u60,u61,u62,u63,u64,u65,u66,u67,u68,u69,u70,u71,u72,u73,u74,u75,u76,u77,u78,rfl⟩
    obtain ⟨⟨q1,rfl⟩,hq⟩:_∧True:=⟨hq.out,trivial⟩
    have HD:=Lib.hid (⟨hR1,hF1,q1⟩:_∧_∧_)
    clear hR1 hF1 q1
    go_wp2_with fail
    refine (cStop_calls x1 _ hC).mono ?_
    rintro e2 W2 ⟨rfl,hD⟩
    have HD2:=Lib.hid (didr_trans HR.out HD.out.2.1 HD.out.2.2 (didr_of (x:=x1) HD.out.1 hD rfl))
    clear hD
    go_wp2_with fail
    try simp only [Exit.noGoto]
    go_ret2
    exact ⟨rfl,HD2.out⟩
  case first=>
    have hr:=Hr.out
    unfold Ct.step at hr
    have kt:=hT.blk
    cases hov:x.over with
    | true=>
      rw [hov,if_pos rfl] at hr
      cases hr
      rw [hov] at kt
      have c_kt:=f3 kt;have l_ktw:=lt_of kt
      go_wp2_with fail
      try simp only [Exit.two]
      go_ret2
      exact ⟨rfl,O,A,cap,hT,HR.out,Fr.refl _ _ _,fun a ha=> .inl ⟨a,ha,rfl⟩⟩
    | false=>
      rw [hov,if_neg (by decide)] at hr
      cases hb:x.owns with
      | false=>
        rw [hb,if_pos rfl] at hr
        obtain ⟨y,hy,rfl⟩:=Option.map_eq_some_iff.1 hr
        have HY:=Lib.hid hy
        clear hr hy Hr
        rw [hov,hb] at kt
        have c_kt:=f3 kt;have l_ktw:=lt_of kt
        go_wp2_with fail
        refine (cFind_calls x y HY.out HOK.out.rows _ hT HR.out).mono ?_
        rintro e1 W1 ⟨rfl,hD⟩
        have HD:=Lib.hid hD
        clear kt c_kt hD
        go_wp2_with fail
        go_step3
        refine .inl ⟨rfl,⟨HD.out,Lib.hid ⟨rfl,rfl⟩⟩,?_⟩
        exact ⟨_,_,_,_,_,_,_,_,_,_,_,_,_,_,_,_,_,_,_,_,_,_,_,_,_,_,_,_,_,_,_,_,_,_,_,_,_,_,_,_,_,_,_,_,_,_,_,_,_,_,_,_,_,_,_,_,_,_,_,_,_,_,_,_,_,_,_,_,_,_,_,_,_,_,_,_,_,_,rfl⟩
      | true=>
        rw [hb,if_neg (by decide)] at hr
        rw [hov,hb] at kt
        by_cases hp:x.rows=[]
        · rw [if_pos hp] at hr
          obtain ⟨r1,hr1,hre⟩:=Option.map_eq_some_iff.1 hr
          obtain ⟨l,hl⟩: ∃l,lAll x.s x.p.table=some l:=by
            cases h:lAll x.s x.p.table with
            | none=>unfold tCut tPlace at hr1;rw [h] at hr1;cases hr1
            | some l=>exact ⟨l,rfl⟩
          have HL:=Lib.hid hl;have HLL:=Lib.hid (HOK.out.tab hb l hl)
          have HR1:=Lib.hid hr1
          have hln:x.rows.length=0:=by rw [hp];rfl
          have HLN:=Lib.hid hln
          have hA:=hT.hA
          have o_kt:=hT.no
          rw [hln] at kt
          clear hr hr1 hl hln Hr hp
          have c_kt:=f3 kt;have l_ktw:=lt_of kt
          go_wp2_with fail
          refine wg fun V hV_V=> ?_
          have hF:=Fr.refl ((oneX tb)) O w
          refine nef1 hV_V hA hF kt ?_;clear hA hF kt c_kt;intro z_V hA hF kt c_kt
          clear hV_V
          refine dr (fun v=>(v.cell? ⟨tb,0,none⟩=V.cell? ⟨tb,0,none⟩)∧(v.cell? ⟨tb,2,none⟩=V.cell? ⟨tb,2,none⟩)∧(v.cell? ⟨tb,9,none⟩=V.cell? ⟨tb,9,none⟩)∧(V.heap.size≤v.heap.size)∧True) ⟨rfl,rfl,rfl,Nat.le_refl _,trivial⟩ fun Vd hV_Vd hHeld=> ?_
          have v_kt:=c_kt.1
          refine nef1 hV_Vd hA hF kt ?_;clear hA hF kt c_kt;intro z_Vd hA hF kt c_kt
          clear hV_Vd
          refine ta 0 hHeld ?_
          refine ta 1 hHeld ?_
          refine ta 2 hHeld ?_
          refine ta 3 hHeld ?_
          refine ta 4 hHeld ?_
          refine ta 5 hHeld ?_
          refine ta 6 hHeld ?_
          refine ta 7 hHeld ?_
          refine ta 8 hHeld ?_
          refine ta 9 hHeld ?_
          refine ta 10 hHeld ?_
          refine ta 11 hHeld ?_
          refine ta 12 hHeld ?_
          refine rd 13 rfl fun K hK=> ?_
          go_simp
          try simp only [IntWalk.i64_left]
          refine wC (tCutT_calls x.p.table x.id l HL.out HLL.out r1 HR1.out _ hA) fun W O1 hA_W hf_W=> ?_
          refine wif1 hf_W hF kt o_kt ?_;clear hA hF kt o_kt c_kt hf_W;intro z_W hF kt c_kt o_kt;have hA:=hA_W;clear hA_W
          refine ho hK ⟨vo c_kt v_kt 0,vo c_kt v_kt 2,vo c_kt v_kt 9,by omega,trivial⟩ fun hHeld=> ?_
          clear hK K
          refine ta 14 hHeld ?_
          refine ta 15 hHeld ?_
          refine ta 16 hHeld ?_
          refine rd 17 rfl fun K hK=> ?_
          go_simp
          refine ho hK hHeld fun hHeld=> ?_
          clear hK K
          refine rd 18 rfl fun K hK=> ?_
          go_simp
          refine ho hK hHeld fun hHeld=> ?_
          clear hK K
          refine wd ?_
          go_wp2_with fail
          refine cg fun V2 hV_V2=> ?_
          refine nef1 hV_V2 hA hF kt ?_;clear hA hF kt c_kt;intro z_V2 hA hF kt c_kt
          clear hV_V2
          obtain ⟨⟨e1,y1⟩,hy1⟩: ∃p,x.swap 3 r1=p:=⟨_,rfl⟩
          have hrw1:y1.rows=x.rows:=by have:=(swap_rows x 3 r1).1;rw [hy1] at this;exact this
          have hov1:y1.over=false∧y1.owns=true:=by
            have e:(x.swap 3 r1).2.over=x.over∧(x.swap 3 r1).2.owns=x.owns:=by unfold Ct.swap;split<;>exact ⟨rfl,rfl⟩
            rw [hy1] at e;exact ⟨e.1.trans hov,e.2.trans hb⟩
          have hc1:=cSwap_calls (A:=A) (cap:=cap) x 3 (by omega) r1 _ ⟨hA,(by
            show _=some (Obj.cells #[ap, .int .i64 x.src, .int .i64 x.id, .int .i64 x.length, .int .i64 x.place, .slice A x.rows.length cap, .int .i64 x.p.wave, .int .i64 x.p.marks, .int .i64 x.p.spots, .int .i64 x.p.table, .bool x.owns, .bool x.over, .int .i64 x.root] 197 (0,0))
            rw [HLN.out,hov,hb];exact kt),o_kt⟩
          rw [hy1] at hc1 hre
          have HRE:=Lib.hid hre
          have HRW1:=Lib.hid hrw1
          have HOV1:=Lib.hid hov1
          clear hrw1 hov1 hy1 hre
          refine tC (hc1) fun W2 O2 hT hf=> ?_
          refine ti0 hT.hA hT.blk hT.no hf hF ?_;clear hA hF kt c_kt o_kt hT hf;intro z_W2 hA hF kt c_kt o_kt
          have hRn:=HR.out
          by_cases h0:e1=0
          · subst h0
            have hmade:Ct.made (0,y1)=(true,(vMake y1.s y1.p).2.1,({y1 with s:=(vMake y1.s y1.p).2.2,root:=(vMake y1.s y1.p).1}:Ct).stop):=by unfold Ct.made;rw [if_pos rfl]
            have hre:=HRE.out
            rw [hmade] at hre
            have HMD:=Lib.hid hre
            clear hmade hre HRE
            go_wp2_with fail
            refine wg fun V3 hV_V3=> ?_
            refine nef1 hV_V3 hA hF kt ?_;clear hA hF kt c_kt;intro z_V3 hA hF kt c_kt
            clear hV_V3
            refine dr (fun v=>(v.cell? ⟨tb,0,none⟩=V3.cell? ⟨tb,0,none⟩)∧(v.cell? ⟨tb,6,none⟩=V3.cell? ⟨tb,6,none⟩)∧(v.cell? ⟨tb,7,none⟩=V3.cell? ⟨tb,7,none⟩)∧(v.cell? ⟨tb,8,none⟩=V3.cell? ⟨tb,8,none⟩)∧(v.cell? ⟨tb,9,none⟩=V3.cell? ⟨tb,9,none⟩)∧(V3.heap.size≤v.heap.size)∧True) ⟨rfl,rfl,rfl,rfl,rfl,Nat.le_refl _,trivial⟩ fun V3d hV_V3d hHeld=> ?_
            have v_kt:=c_kt.1
            refine nef1 hV_V3d hA hF kt ?_;clear hA hF kt c_kt;intro z_V3d hA hF kt c_kt
            clear hV_V3d
            refine ta 0 hHeld ?_
            refine ta 1 hHeld ?_
            refine ta 2 hHeld ?_
            refine ta 3 hHeld ?_
            refine ta 4 hHeld ?_
            refine ta 5 hHeld ?_
            refine ta 6 hHeld ?_
            refine ta 7 hHeld ?_
            refine ta 8 hHeld ?_
            refine rd 9 rfl fun K hK=> ?_
            go_simp
            try simp only [IntWalk.i64_left]
            refine wC (vMake_calls y1.p _ hA) fun W3 O3 hA_W3 hf_W3=> ?_
            refine wif1 hf_W3 hF kt o_kt ?_;clear hA hF kt o_kt c_kt hf_W3;intro z_W3 hF kt c_kt o_kt;have hA:=hA_W3;clear hA_W3
            refine ho hK ⟨vo c_kt v_kt 0,vo c_kt v_kt 6,vo c_kt v_kt 7,vo c_kt v_kt 8,vo c_kt v_kt 9,by omega,trivial⟩ fun hHeld=> ?_
            clear hK K
            refine ta 10 hHeld ?_
            refine ta 11 hHeld ?_
            refine ta 12 hHeld ?_
            refine ta 13 hHeld ?_
            refine ta 14 hHeld ?_
            refine rd 15 rfl fun K hK=> ?_
            go_simp
            refine ga (K:=K) fun D3 hV_D3=> ?_
            refine nef1 hV_D3 hA hF kt ?_;clear hA hF kt c_kt;intro z_D3 hA hF kt c_kt
            clear hV_D3
            refine ho hK ⟨vo c_kt v_kt 0,vo c_kt v_kt 6,vo c_kt v_kt 7,vo c_kt v_kt 8,vo c_kt v_kt 9,by omega,trivial⟩ fun hHeld=> ?_
            clear hK K
            refine rd 16 rfl fun K hK=> ?_
            go_simp
            refine ho hK hHeld fun hHeld=> ?_
            clear hK K
            refine wd ?_
            go_wp2_with fail
            go_step3
            go_wp2_with fail
            refine cg fun V4 hV_V4=> ?_
            refine nef1 hV_V4 hA hF kt ?_;clear hA hF kt c_kt;intro z_V4 hA hF kt c_kt
            clear hV_V4
            refine (cStop_calls (A:=A) (cap:=cap) {y1 with s:=(vMake y1.s y1.p).2.2,root:=(vMake y1.s y1.p).1} _ ⟨hA,kt,o_kt⟩).mono ?_
            rintro e5 W5 ⟨rfl,O5,hC5,hF5⟩
            have HD:=Lib.hid (didr_of (x:=x) HR.out ⟨O5,hC5,hF.trans hF5⟩ HRW1.out)
            clear hC5 hF5 hA hF kt c_kt
            go_wp2_with fail
            try simp only [Exit.two]
            go_ret2
            have hre:=HMD.out
            subst hre
            exact ⟨rfl,HD.out⟩
          · have d1:(e1==0)=false:=by simpa using h0
            have hmade:Ct.made (e1,y1)=(true,e1,y1.stop):=by unfold Ct.made;rw [if_neg h0]
            have hre:=HRE.out
            rw [hmade] at hre
            have HMD:=Lib.hid hre
            clear hmade hre HRE
            go_wp2_with fail
            go_step3
            go_wp2_with fail
            refine cg fun V4 hV_V4=> ?_
            refine nef1 hV_V4 hA hF kt ?_;clear hA hF kt c_kt;intro z_V4 hA hF kt c_kt
            clear hV_V4
            refine (cStop_calls (A:=A) (cap:=cap) y1 _ ⟨hA,kt,o_kt⟩).mono ?_
            rintro e5 W5 ⟨rfl,O5,hC5,hF5⟩
            have HD:=Lib.hid (didr_of (x:=x) HR.out ⟨O5,hC5,hF.trans hF5⟩ HRW1.out)
            clear hC5 hF5 hA hF kt c_kt
            go_wp2_with fail
            try simp only [Exit.two]
            go_ret2
            have hre:=HMD.out
            subst hre
            exact ⟨rfl,HD.out⟩
        · rw [if_neg hp] at hr
          obtain ⟨r1,hr1,rfl⟩:=Option.map_eq_some_iff.1 hr
          have HR1:=Lib.hid hr1
          have hln:decide (0<(x.rows.length:Int))=true:=by have:=List.length_pos_iff.2 hp;simp;omega
          have hpos:0<x.rows.length:=List.length_pos_iff.2 hp
          have HP:=Lib.hid hp
          clear hr hr1 Hr hp
          have c_kt:=f3 kt;have l_ktw:=lt_of kt
          go_wp2_with fail
          refine (cTake_calls x r1 HR1.out HP.out HOK.out.rows _ hT HR.out).mono ?_
          rintro e1 W1 ⟨rfl,hD⟩
          have HD:=Lib.hid hD
          clear kt c_kt hD hln hpos
          by_cases h0:r1.1=0
          · have d1:(r1.1 !=0)=false:=by simp [h0]
            have hask:Ct.asked r1=(false,0,r1.2):=by unfold Ct.asked;rw [if_pos h0]
            have HAS:=Lib.hid hask
            go_wp2_with fail
            go_step3
            refine .inl ⟨rfl,(by rw [HAS.out];exact ⟨HD.out,Lib.hid ⟨rfl,rfl⟩⟩),?_⟩
            exact ⟨_,_,_,_,_,_,_,_,_,_,_,_,_,_,_,_,_,_,_,_,_,_,_,_,_,_,_,_,_,_,_,_,_,_,_,_,_,_,_,_,_,_,_,_,_,_,_,_,_,_,_,_,_,_,_,_,_,_,_,_,_,_,_,_,_,_,_,_,_,_,_,_,_,_,_,_,_,_,rfl⟩
          · have d1:(r1.1 !=0)=true:=by simpa using h0
            have hask:Ct.asked r1=(true,r1.1,r1.2.stop):=by unfold Ct.asked;rw [if_neg h0]
            have HAS:=Lib.hid hask
            obtain ⟨O1,A1,cap1,hC1,hR1,hF1,hA1⟩:=HD.out
            go_wp2_with fail
            go_step3
            refine .inr ⟨rfl,r1.1,r1.2,O1,A1,cap1,⟨hC1,hR1,hF1,Lib.hid ⟨hA1,HAS.out.symm⟩⟩,?_⟩
            exact ⟨_,_,_,_,_,_,_,_,_,_,_,_,_,_,_,_,_,_,_,_,_,_,_,_,_,_,_,_,_,_,_,_,_,_,_,_,_,_,_,_,_,_,_,_,_,_,_,_,_,_,_,_,_,_,_,_,_,_,_,_,_,_,_,_,_,_,_,_,_,_,_,_,_,_,_,_,_,rfl⟩
end
section
open Go.RowKit
attribute [local go_sem ↓] Go.wp_at_zero Go.wp_at_succ
attribute [local go_sem] lt_s2 lt_s3 lt_s4 str_len
variable {ap : Value} {O : Nat → Prop} {tb : Nat} {A : Option Addr} {cap : Nat}
theorem cHeld_over (x : Ct) (hov : x.over = true) (w : World) (hT : CB w tb ap x O A cap) :
    Calls Tryz.prog 58 #[.pointer (some ⟨tb,0,none⟩)] w fun e w'=>e= .returned (.slice none 0 0)∧w=w':=by
  have kt:=hT.blk
  rw [hov] at kt
  go_enter Tryz.func58,Tryz.ntmps58
  have c_kt:=f3 kt;have l_ktw:=lt_of kt
  go_wp2_with fail
  go_ret
  exact ⟨rfl,rfl⟩
end
section
open Go.RowKit
attribute [local go_sem ↓] Go.wp_at_zero Go.wp_at_succ
attribute [local go_sem] str_len
theorem place_calls (v : Value) (ds : Docs) (id : Int) (hl : ds.length ≤ 50000) (w : World) (h : Rd2 w v ds) :
    Calls Tryz.prog 19 #[v, .int .i64 id] w fun e w'=>e= .returned (.int .i64 (placeZ id ds 0))∧Below w.heap.size w w':=by
  obtain ⟨R,hR⟩: ∃R,placeZ id ds 0=R:=⟨_,rfl⟩
  rw [hR]
  have HR:=Lib.hid hR;clear hR
  have HK:=Lib.hid h
  obtain ⟨A,cap,rfl,h2⟩:=h
  clear h2
  go_enter Tryz.func19,Tryz.ntmps19
  go_wp2_with fail
  go_loopg [5] ds.length (fun k p wr=> ∃i:Nat,p= .int .i64 (i:Int)∧i+k=ds.length∧Hid (placeZ id (ds.drop i) i=R)∧Below w.heap.size w wr)
  case atStart=>exact ⟨0,rfl,by omega,HR,Below.refl _ _⟩
  case round=>
    obtain ⟨i,rfl,hk,Hl,hB⟩:=hrel
    by_cases hlt:i<ds.length
    · obtain ⟨k,rfl⟩: ∃k,gk=k+1:=⟨gk - 1,by omega⟩
      obtain ⟨d,hd⟩:=at_some hlt
      have hl2:=Hl.out
      rw [drop_at hd,placeZ] at hl2
      obtain ⟨A',cap',hv,h2⟩:=HK.out.below hB
      obtain ⟨ad,rfl,hg,hc⟩:=h2 (by omega)
      obtain ⟨rfl, -,rfl⟩:=Value.slice.inj hv
      obtain ⟨-,c1,c2⟩:=hc i d hd
      have n1:decide ((i:Int)<(ds.length:Int))=true:=by simpa using hlt
      have n2:(i:Int)<(ds.length:Int):=by omega
      have e3:wrap64 ((i:Int)+1)=(i:Int)+1:=IntWalk.wrap64_in _ (by omega)
      clear hc c2 h2 hv Hl hd
      by_cases he:d.1=id
      · have d1:(d.1==id)=true:=by simpa using he
        rw [if_pos he] at hl2
        have HL:=Lib.hid hl2
        clear hl2 he
        go_wp2_with fail
        go_ret
        exact ⟨by rw [←HL.out];rfl,hB⟩
      · have d1:(d.1==id)=false:=by simpa using he
        rw [if_neg he] at hl2
        have HL:=Lib.hid hl2
        clear hl2 he
        go_wp2_with fail
        go_roundg k
        case measure=>omega
        case rel=>exact ⟨i+1,by first|rfl|(rw [e3];rfl),by omega,HL,hB⟩
    · have hi:i=ds.length:=by omega
      have hl2:=Hl.out
      rw [hi,List.drop_length,placeZ] at hl2
      have HL:=Lib.hid hl2
      have n1:decide ((i:Int)<(ds.length:Int))=false:=by simpa using hlt
      clear hl2 Hl
      go_wp2_with fail
      go_ret
      exact ⟨by rw [←HL.out];rfl,hB⟩
theorem mright_calls (v : Value) (ds : Docs) (hl : ds.length ≤ 50000) (w : World) (h : Rd2 w v ds) :
    Calls Tryz.prog 74 #[v] w fun e w'=>e= .returned (.bool (mRight ds))∧Below w.heap.size w w':=by
  obtain ⟨R,hR⟩: ∃R,mRight ds=R:=⟨_,rfl⟩
  rw [hR]
  have HR:=Lib.hid hR;clear hR
  have HK:=Lib.hid h
  obtain ⟨A,cap,rfl,h2⟩:=h
  clear h2
  go_enter Tryz.func74,Tryz.ntmps74
  go_wp2_with fail
  go_loopg [3] ds.length (fun k p wr=> ∃i:Nat,p= .int .i64 (i:Int)∧i+k=ds.length∧Hid (mrFrom ds (ds.drop i) i=R)∧Hid (Below w.heap.size w wr))
  case atStart=>exact ⟨0,rfl,by omega,HR,Lib.hid (Below.refl _ _)⟩
  case round=>
    obtain ⟨i,rfl,hk,Hl,HB⟩:=hrel
    by_cases hlt:i<ds.length
    · obtain ⟨k,rfl⟩: ∃k,gk=k+1:=⟨gk - 1,by omega⟩
      obtain ⟨d,hd⟩:=at_some hlt
      have hl2:=Hl.out
      rw [drop_at hd,mrFrom] at hl2
      have HR2:=Lib.hid (HK.out.below HB.out)
      obtain ⟨A',cap',hv,h2⟩:=HR2.out
      obtain ⟨ad,rfl,hg,hc⟩:=h2 (by omega)
      obtain ⟨rfl, -,rfl⟩:=Value.slice.inj hv
      obtain ⟨-,c1,c2⟩:=hc i d hd
      have n1:decide ((i:Int)<(ds.length:Int))=true:=by simpa using hlt
      have n2:(i:Int)<(ds.length:Int):=by omega
      have e3:wrap64 ((i:Int)+1)=(i:Int)+1:=IntWalk.wrap64_in _ (by omega)
      clear hc h2 hv Hl hd
      replace c2:wr.cell? ⟨(ad.add (i*2)).block,(ad.add (i*2)).off+1,none⟩=some (strOf d.2):=c2
      have hend: ∀W2,Below wr.heap.size wr W2→Below w.heap.size w W2:=fun W2 hb=>below_step HB.out hb
      by_cases g1:1≤d.1
      · have d1:decide (d.1<1)=false:=by simp;omega
        rw [decide_eq_true g1,Bool.true_and] at hl2
        by_cases g2:d.2.length≤40
        · have d2:decide ((40:Int)<(d.2.length:Int))=false:=by simp;omega
          rw [decide_eq_true g2,Bool.true_and] at hl2
          by_cases g3:placeZ d.1 ds 0=(i:Int)
          · have d3:(placeZ d.1 ds 0==(i:Int))=true:=by simpa using g3
            rw [decide_eq_true g3,Bool.true_and] at hl2
            have HL:=Lib.hid hl2
            clear hl2 g1 g2 g3
            go_wp2_with fail
            refine (place_calls _ ds _ hl _ HR2.out).mono ?_
            rintro e1 W1 ⟨rfl,hb1⟩
            have HB1:=Lib.hid (hend _ hb1);clear hb1
            go_wp2_with fail
            go_roundg k
            case measure=>omega
            case rel=>exact ⟨i+1,by first|rfl|(rw [e3];rfl),by omega,HL,HB1⟩
          · have d3:(placeZ d.1 ds 0==(i:Int))=false:=by simpa using g3
            rw [decide_eq_false g3,Bool.false_and] at hl2
            have HL:=Lib.hid hl2
            clear hl2 g1 g2 g3
            go_wp2_with fail
            refine (place_calls _ ds _ hl _ HR2.out).mono ?_
            rintro e1 W1 ⟨rfl,hb1⟩
            have HB1:=Lib.hid (hend _ hb1);clear hb1
            go_wp2_with fail
            go_ret
            exact ⟨by rw [←HL.out];rfl,HB1.out⟩
        · have d2:decide ((40:Int)<(d.2.length:Int))=true:=by simp;omega
          rw [decide_eq_false g2,Bool.false_and] at hl2
          have HL:=Lib.hid hl2
          clear hl2 g1 g2
          go_wp2_with fail
          go_ret
          exact ⟨by rw [←HL.out];rfl,HB.out⟩
      · have d1:decide (d.1<1)=true:=by simp;omega
        rw [decide_eq_false g1,Bool.false_and] at hl2
        have HL:=Lib.hid hl2
        clear hl2 g1
        go_wp2_with fail
        go_ret
        exact ⟨by rw [←HL.out];rfl,HB.out⟩
    · have hi:i=ds.length:=by omega
      have hl2:=Hl.out
      rw [hi,List.drop_length,mrFrom] at hl2
      have HL:=Lib.hid hl2
      have n1:decide ((i:Int)<(ds.length:Int))=false:=by simpa using hlt
      clear hl2 Hl
      go_wp2_with fail
      go_ret
      exact ⟨by rw [←HL.out];first|rfl|(show Ending.returned (Value.bool (decide ((ds.length:Int)≤10)))=_;congr 2;exact decide_eq_decide.2 (by omega)),HB.out⟩
theorem few_calls (v : Value) (ds : Docs) (hl : ds.length ≤ maxLen) (w : World) (h : Rd2 w v ds) :
    Calls Tryz.prog 14 #[v] w fun e w'=>e= .returned (.bool (few ds))∧Below w.heap.size w w':=by
  obtain ⟨R,hR⟩: ∃R,few ds=R:=⟨_,rfl⟩
  rw [hR]
  have HR:=Lib.hid hR;clear hR
  have HK:=Lib.hid h
  have HM:=Lib.hid hl
  clear hl
  obtain ⟨A,cap,rfl,h2⟩:=h
  clear h2
  go_enter Tryz.func14,Tryz.ntmps14
  go_wp2_with fail
  go_loopg [3,7] ds.length (fun k p q wr=> ∃(i:Nat) (n:Int),p= .int .i64 n∧q= .int .i64 (i:Int)∧i+k=ds.length∧Hid (sumW (ds.drop i) n=sumW ds 0)∧Below w.heap.size w wr)
  case atStart=>exact ⟨0,0,rfl,rfl,by omega,Lib.hid rfl,Below.refl _ _⟩
  case round=>
    obtain ⟨i,n,rfl,rfl,hk,Hl,hB⟩:=hrel
    by_cases hlt:i<ds.length
    · obtain ⟨k,rfl⟩: ∃k,gk=k+1:=⟨gk - 1,by omega⟩
      obtain ⟨d,hd⟩:=at_some hlt
      have hl2:=Hl.out
      rw [drop_at hd,sumW] at hl2
      obtain ⟨A',cap',hv,h2⟩:=HK.out.below hB
      obtain ⟨ad,rfl,hg,hc⟩:=h2 (by omega)
      obtain ⟨rfl, -,rfl⟩:=Value.slice.inj hv
      obtain ⟨-,c1,c2⟩:=hc i d hd
      have n1:decide ((i:Int)<(ds.length:Int))=true:=by simpa using hlt
      have n2:(i:Int)<(ds.length:Int):=by omega
      have e3:wrap64 ((i:Int)+1)=(i:Int)+1:=wrap_len HM.out hlt
      replace c2:wr.cell? ⟨(ad.add (i*2)).block,(ad.add (i*2)).off+1,none⟩=some (strOf d.2):=c2
      have HL:=Lib.hid hl2
      clear hc c1 h2 hv Hl hd hl2
      go_wp2_with fail
      go_roundg k
      case measure=>omega
      case rel=>exact ⟨i+1,_,rfl,by first|rfl|(rw [e3];rfl),by omega,HL,hB⟩
    · have hi:i=ds.length:=by omega
      have hl2:=Hl.out
      rw [hi,List.drop_length,sumW] at hl2
      have n1:decide ((i:Int)<(ds.length:Int))=false:=by simpa using hlt
      have HB:=Lib.hid hB
      clear Hl hB
      have hr:=HR.out
      unfold few at hr
      rw [←hl2] at hr
      by_cases g1:ds.length≤12
      · have d1:decide ((ds.length:Int)≤12)=true:=by simp;omega
        rw [decide_eq_true g1,Bool.true_and] at hr
        by_cases g2:n≤60
        · have d2:decide (n≤60)=true:=by simpa using g2
          rw [d2,Bool.true_and] at hr
          have hl5:=Lib.hid (show ds.length≤50000 by omega)
          have HR2:=Lib.hid hr
          clear g1 g2 hl2 hr
          go_wp2_with fail
          refine (mright_calls _ ds hl5.out _ (HK.out.below HB.out)).mono ?_
          rintro e1 W1 ⟨rfl,hb1⟩
          have HB1:=Lib.hid (below_step HB.out hb1);clear hb1
          go_wp2_with fail
          go_ret
          exact ⟨by rw [←HR2.out];rfl,HB1.out⟩
        · have d2:decide (n≤60)=false:=by simpa using g2
          rw [d2,Bool.false_and] at hr
          have HR2:=Lib.hid hr
          clear g1 g2 hl2 hr
          go_wp2_with fail
          go_ret
          exact ⟨by rw [←HR2.out];rfl,HB.out⟩
      · have d1:decide ((ds.length:Int)≤12)=false:=by simp;omega
        rw [decide_eq_false g1,Bool.false_and] at hr
        have HR2:=Lib.hid hr
        clear g1 hl2 hr
        go_wp2_with fail
        go_ret
        exact ⟨by rw [←HR2.out];rfl,HB.out⟩
end
section
open Go.RowKit
theorem bTable_ok: ∀{l:List (Int×Int)} {b b':Bst},bTable l b=some b'→b'.ok=true→b.ok=true
  | [],b,b',h,ho=>by cases h;exact ho
  | x::l,b,b',h,ho=>by
    unfold bTable at h
    cases ha:lAll b.s b.p.table with
    | none=>rw [ha] at h;cases h
    | some a=>
      rw [ha,Option.bind_some] at h
      split at h
      · cases hr:tAdd b.s b.p.table x.1 x.2 with
        | none=>rw [hr] at h;cases h
        | some r=>
          rw [hr,Option.bind_some] at h
          have:=bTable_ok h ho
          simp only [nextA] at this
          split at this
          · exact this
          · cases this
      · cases h
theorem bEnd_ok {b:Bst} {r:Int×Bool×Ar} (h:bEnd b=some r) (ho:r.2.1=true):b.ok=true:=by
  cases hb:b.ok with
  | true=>rfl
  | false=>
    unfold bEnd at h
    rw [hb] at h
    simp only [Bool.false_eq_true,if_false] at h
    cases hw:(dropP (dropP (dropP (dropP b.s b.p.wave) b.p.marks) b.p.spots) b.p.table).work 1073741824 with
    | none=>rw [hw] at h;cases h
    | some u=>rw [hw] at h;cases h;cases ho
theorem build_partsW {s : Ar} (hI : Inv s []) (hw : s.wait = []) {ds : Docs} (h : Right ds) (hne : ds ≠ []) (rate : Int) (hs : 10000 + 160 * (tot ds + ds.length) ≤ 8 * s.size) :
    ∃B1 B2 root s',bRows rate (rowsM ds) 0 ⟨s,true,Parts.zero,0⟩=some B1∧B1.ok=true∧bTable (docsM ds) B1=some B2∧B2.ok=true∧bEnd B2=some (root,true,s')∧Inv s' [root]∧s'.size=s.size∧root≠0∧VR s' root ds rate∧s'.wait=[]:=by
  obtain ⟨⟨root,ok,s'⟩,h1,h2,hwt,h3,h4,h5⟩:=bBuild_T hI hw h rate
  have hr:=rows_tot h
  rcases h5 with ⟨rfl,hv⟩|⟨-, -,hlt⟩
  · have hd:docsM ds≠[]:=fun e=>hne (by unfold docsM at e;simpa using e)
    unfold bBuild at h1
    rw [if_neg hd] at h1
    cases e1:bRows rate (rowsM ds) 0 ⟨s,true,Parts.zero,0⟩ with
    | none=>rw [e1] at h1;cases h1
    | some B1=>
      rw [e1,Option.bind_some] at h1
      cases e2:bTable (docsM ds) B1 with
      | none=>rw [e2] at h1;cases h1
      | some B2=>
        rw [e2,Option.bind_some] at h1
        have o2:=bEnd_ok h1 rfl
        exact ⟨B1,B2,root,s',rfl,bTable_ok e2 o2,e2,o2,h1,h2,h3,fun e=>(h4 e).elim hne (fun h=>by cases h),hv,hwt⟩
  · omega
end
section
open Go.RowKit
attribute [local go_sem ↓] Go.wp_at_zero Go.wp_at_succ
attribute [local go_sem] str_len
theorem rowCells_length (l:List (Nat×Nat)):(rowCells l).length=l.length*2:=by unfold rowCells rowInts;rw [itemCells_length,List.length_map]
theorem rowCells_append (a b:List (Nat×Nat)):rowCells (a++b)=rowCells a++rowCells b:=by unfold rowCells rowInts;rw [List.map_append,itemCells_append]
theorem rowCells_take: ∀(l:List (Nat×Nat)) (k:Nat),(rowCells l).take (k*2)=rowCells (l.take k)
  | [],k=>by simp [rowCells,rowInts,itemCells]
  | x::l,0=>rfl
  | x::l,k+1=>by
    have:=rowCells_take l k
    rw [show (k+1)*2=k*2+1+1 by omega]
    unfold rowCells rowInts at this⊢
    simp [itemCells,this]
theorem rowCells_drop: ∀(l:List (Nat×Nat)) (k:Nat),(rowCells l).drop (k*2)=rowCells (l.drop k)
  | [],k=>by simp [rowCells,rowInts,itemCells]
  | x::l,0=>rfl
  | x::l,k+1=>by
    have:=rowCells_drop l k
    rw [show (k+1)*2=k*2+1+1 by omega]
    unfold rowCells rowInts at this⊢
    simp [itemCells,this]
theorem rowCells_one (l:List (Nat×Nat)): ∀u∈rowCells l,u.oneCell'=true:=by
  unfold rowCells rowInts
  induction l with
  | nil=>simp [itemCells]
  | cons x l ih=>
    intro u hu
    simp only [List.map_cons,itemCells,List.mem_cons] at hu
    rcases hu with rfl|rfl|hu
    · rfl
    · rfl
    · exact ih u hu
theorem rowCells_at {l:List (Nat×Nat)} {i:Nat} {r:Nat×Nat} (h:l[i]? =some r):(rowCells l)[i*2]? =some (.int .i64 (r.1:Int))∧(rowCells l)[i*2+1]? =some (.int .i64 (r.2:Int)):=by
  unfold rowCells rowInts
  exact itemCells_at _ i ((r.1:Int),(r.2:Int)) (by simp [h])
theorem step_wrap (j n:Nat) (h:j≤n) (hn:n≤50000):wrap64 ((j:Int)+1)=(j:Int)+1:=IntWalk.wrap64_in _ (by omega)
theorem sorted_walk (v : Value) (ts : List (List UInt8)) (hrt : refRight ts = true) (w : World) (h : Rk w 1 v ts.length (ts.map strOf)) :
    Calls Tryz.prog 75 #[v] w fun e w'=> ∃v',e= .returned v'∧w'.ownsRow w.heap.size 136 2 v' (refFold ts (upto ts ts.length 0)).length (rowCells (refFold ts (upto ts ts.length 0)))∧Below w.heap.size w w':=by
  obtain ⟨hn10,h40⟩:=right_len hrt
  have H40:=Lib.hid h40;clear h40
  have HK:=Lib.hid h
  obtain ⟨h1,A,cap,rfl,h2⟩:=h
  clear h1 h2
  go_enter Tryz.func75,Tryz.ntmps75
  go_wp2_with fail
  refine cg fun V0 hV_V0=> ?_
  have hB:=Below.refl w.heap.size w
  refine neb0 hV_V0 hB ?_;clear hB;intro z_V0 hB
  clear hV_V0
  refine rC (rright_calls _ ts (by omega) _ (HK.out.below hB)) fun W0 hb_W0=> ?_
  refine beb0 hb_W0 hB ?_;clear hb_W0 hB;intro z_W0 hB
  rw [hrt]
  have HB0:=Lib.hid hB;clear hB
  go_wp2_with fail
  go_loopg [3,4] ts.length (fun k p q wr=> ∃d:Nat,q= .int .i64 (d:Int)∧d+k=ts.length∧Hid (wr.ownsRow w.heap.size 136 2 p (refFold ts (upto ts d 0)).length (rowCells (refFold ts (upto ts d 0))))∧Hid (Below w.heap.size w wr))
  case atStart=>exact ⟨0,rfl,by omega,Lib.hid (own_nil _ _ _ _),HB0⟩
  case round=>
    clear HB0
    obtain ⟨d,rfl,hk,Hown,HB⟩:=hrel
    by_cases hlt:d<ts.length
    · obtain ⟨k,rfl⟩: ∃k,gk=k+1:=⟨gk - 1,by omega⟩
      obtain ⟨t,ht⟩:=at_some hlt
      have n1:decide ((d:Int)<(ts.length:Int))=true:=by simpa using hlt
      have n2:(d:Int)<(ts.length:Int):=by omega
      have E3:=Lib.hid (step_wrap d 10 (by omega) (by omega))
      have hgd:=getD_at ht
      have hlen:=H40.out d
      rw [hgd] at hlen
      go_wp2_with fail
      go_loopg [3,5] (t.length+1) (fun k2 p q wr=> ∃a:Nat,q= .int .i64 (a:Int)∧a+k2=t.length+1∧Hid (wr.ownsRow w.heap.size 136 2 p (refFold ts (upto ts d a)).length (rowCells (refFold ts (upto ts d a))))∧Hid (Below w.heap.size w wr))
      case atStart=>exact ⟨0,rfl,by omega,Hown,HB⟩
      case round=>
        clear Hown HB
        obtain ⟨a,rfl,hk2,Hown,HB⟩:=hrel
        obtain ⟨-,A',cap',hv,h2⟩:=HK.out.below HB.out
        obtain ⟨g,cs,T,rfl,kg,hcs⟩:=h2 (by omega)
        obtain ⟨rfl, -,rfl⟩:=Value.slice.inj hv
        have hci:cs[d]? =some (strOf t):=by rw [hcs d (by omega),List.getElem?_map,ht];rfl
        clear h2 hv hcs
        have c_kg:=f3 kg;have l_kgwr:=lt_of kg
        by_cases hla:a≤t.length
        · obtain ⟨k2,rfl⟩: ∃k,gk=k+1:=⟨gk - 1,by omega⟩
          have m1:decide ((a:Int)≤(t.length:Int))=true:=by simp;omega
          have E4:=Lib.hid (step_wrap a 40 (by omega) (by omega))
          have hw0:=HB.out.size
          have hd10:d≤10:=by omega
          have ha41:a≤41:=by omega
          have hB:=Below.refl wr.heap.size wr
          have c_kg:=f3 kg;have l_kgwr:=lt_of kg
          go_wp2_with fail
          refine wg fun V hV_V=> ?_
          refine neb1 hV_V hB kg ?_;clear hB kg c_kg;intro z_V hB kg c_kg
          obtain ⟨kr,c_kr,l_krV⟩:=nM hV_V (wr.heap.size)
          clear hV_V
          have hownV:=own_below Hown.out hB
          have hBV:=below_step HB.out hB
          have hszV:=hBV.size
          obtain ⟨out,hout⟩: ∃out,out=refFold ts (upto ts d a):=⟨_,rfl⟩
          rw [←hout] at hownV
          have hol:out.length≤500:=by rw [hout];exact fold_small hrt d a hd10 ha41
          have hval: ∀x,x∈out→ ∃t',ts[x.1]? =some t'∧x.2≤t'.length:=fun x hx=>fold_valid d a t ht hla x (hout▸hx)
          obtain ⟨-,A3,c3,rfl,hx3⟩:=Rx.of_own hownV
          have HownV:=Lib.hid hownV;have HBV:=Lib.hid hBV;have Hval:=Lib.hid hval;have Hout:=Lib.hid hout;have HX3:=Lib.hid hx3;have KG:=Lib.hid kg;have KR:=Lib.hid kr
          clear hownV hBV hval hout hx3 Hown kg kr c_kg c_kr hB
          generalize hkrb:wr.heap.size=krb at*
          go_loopg [7] out.length (fun k3 p wr=> ∃j:Nat,p= .int .i64 (j:Int)∧j+k3=out.length∧Hid (∀i x,i<j→out[i]? =some x→refLess ts x (d,a)=true)∧Below V.heap.size V wr)
          case atStart=>exact ⟨0,rfl,by omega,Lib.hid (fun i x hi=>absurd hi (by omega)),Below.refl _ _⟩
          case round=>
            obtain ⟨j,rfl,hk3,Hpre,hB2⟩:=hrel
            have hsz2:=hB2.size
            by_cases hj:j<out.length
            · obtain ⟨k3,rfl⟩: ∃k,gk=k+1:=⟨gk - 1,by omega⟩
              obtain ⟨x,hx⟩:=at_some hj
              obtain ⟨t1,ht1,hx2⟩:=Hval.out x (List.mem_of_getElem? hx)
              obtain ⟨g3,rfl,hg3,hc3⟩:=HX3.out (by omega)
              have c1:wr.cell? ⟨g3,j*2,none⟩=some (.int .i64 (x.1:Int)):=((hB2.cell (by exact hg3)).trans (hc3 _ (by omega))).trans (rowCells_at hx).1
              have c2:wr.cell? ⟨g3,j*2+1,none⟩=some (.int .i64 (x.2:Int)):=((hB2.cell (by exact hg3)).trans (hc3 _ (by omega))).trans (rowCells_at hx).2
              have ck:=cells_of (keep_blk hB2 KR.out)
              have l1:g3<wr.heap.size:=by omega
              have l2:=lt_of (keep_blk hB2 KR.out)
              have j1:decide ((j:Int)<(out.length:Int))=true:=by simpa using hj
              have j2:(j:Int)<(out.length:Int):=by omega
              have E5:=Lib.hid (step_wrap j 500 (by omega) (by omega))
              have hlen1:=H40.out x.1
              rw [getD_at ht1] at hlen1
              have hless:Hid (lessL (decide (x.1<d)) (t1.drop x.2) (t.drop a)=refLess ts x (d,a)):=Lib.hid (by unfold refLess;rw [getD_at ht1,getD_at ht])
              clear hc3
              go_wp2_with fail
              refine wp_region_noPanic ?_
              refine wp_region_held_drew (S:=fun v=>Below wr.heap.size wr v∧(wr.heap.size≤v.heap.size)∧ ∀b o,b<wr.heap.size→v.cell? ⟨b,o,none⟩=wr.cell? ⟨b,o,none⟩) (by kernel_rfl) (HeldB.start wr) (fun hHeld=> ?_)
              have hB_d:Below wr.heap.size wr wr.drew:=(Below.refl _ _).drew
              generalize wr.drew=wrd at hHeld hB_d⊢
              refine ta 0 hHeld ?_
              refine ta 1 hHeld ?_
              refine ta 2 hHeld ?_
              refine ta 3 hHeld ?_
              refine ta 4 hHeld ?_
              refine ta 5 hHeld ?_
              refine ta 6 hHeld ?_
              refine ta 7 hHeld ?_
              refine ta 8 hHeld ?_
              refine ta 9 hHeld ?_
              refine ta 10 hHeld ?_
              refine rd 11 rfl fun K hK=> ?_
              go_simp
              refine (less_calls _ ts x.1 x.2 d a t1 t ht1 hx2 ht hla (by omega) _ hless.out _ (HK.out.below (below_step (below_step HBV.out hB2) hB_d))).mono ?_
              rintro e6 W6 ⟨rfl,hb6⟩
              refine ho hK (HeldB.call hHeld hb6) fun hHeld=> ?_
              clear hK K
              have hBX:Below V.heap.size V W6:=below_step hB2 (below_step hB_d hb6)
              cases hR:refLess ts x (d,a) with
              | true=>
                have Hpre2:Hid (∀i y,i<j+1→out[i]? =some y→refLess ts y (d,a)=true):=Lib.hid (fun i y hi hy=>by
                  rcases Nat.lt_or_ge i j with h|h
                  · exact Hpre.out i y h hy
                  · obtain rfl:i=j:=by omega
                    rw [hx] at hy;cases hy;exact hR)
                refine ta 12 hHeld ?_
                refine wpAnyH_done (by kernel_rfl) ?_ _
                refine NoPanic.normal ?_
                clear c1 c2 ck hHeld Hpre
                go_wp2_with fail
                go_roundg k3
                case measure=>omega
                case rel=>exact ⟨j+1,by first|rfl|(rw [E5.out];rfl),by omega,Hpre2,hBX⟩
              | false=>
                have Hat:Hid (refAt ts out (d,a)=j):=Lib.hid (refAt_of (by omega) Hpre.out (fun y hy=>by rw [hx] at hy;cases hy;exact hR))
                refine ta 12 hHeld ?_
                refine wpAnyH_done (by kernel_rfl) ?_ _
                refine NoPanic.normal ?_
                clear c1 c2 ck hHeld Hpre hB_d hb6
                go_wp2_with fail
                have ownX:=own_below HownV.out hBX
                have krX:=keep_blk hBX KR.out
                have ckX:=cells_of krX
                have lkX:=lt_of krX
                have q0:out.length≤c3:=own_cap HownV.out
                have q1:j≤c3:=by omega
                have q2:j≤out.length:=by omega
                refine wp_region_noPanic ?_
                refine wp_region_held_drew (S:=fun v=>Below W6.heap.size W6 v∧(W6.heap.size≤v.heap.size)∧ ∀b o,b<W6.heap.size→v.cell? ⟨b,o,none⟩=W6.cell? ⟨b,o,none⟩) (by kernel_rfl) (HeldB.start W6) (fun hHeld=> ?_)
                have hB_d:Below W6.heap.size W6 W6.drew:=(Below.refl _ _).drew
                generalize W6.drew=W6d at hHeld hB_d⊢
                refine ta 0 hHeld ?_
                refine ta 1 hHeld ?_
                refine ta 2 hHeld ?_
                refine ta 4 hHeld ?_
                refine ta 7 hHeld ?_
                refine ta 8 hHeld ?_
                refine ta 9 hHeld ?_
                have ownD:=own_below ownX hB_d
                have hszX:=hBX.size
                have hszD:=hB_d.size
                skip
                refine wpAnyH_ready (rs:=[3,5]) (by kernel_rfl) (by simp) ?_
                refine ready_at rfl (fun K hK=> ?_) (ready_at rfl (fun K hK=> ?_) AllReadyH.nil)
                · refine step_moreN (by rfl) _ _ 131 (by rfl) (base:=W6.heap.size) (e:=136) (.agg #[.int .i64 0, .int .i64 0]) 2 16 (by omega) Tryz.underlying131 (by kernel_rfl) (by rfl) (v:= .slice none 0 0) (by rfl) (own_nil _ _ _ _) (by rfl) (by have:=(Rds.of_own (ownD)).part j q2;rw [rowCells_take] at this;exact this) (rowCells_one _) (nm:=j) (by omega) (by omega) (by omega) (hHeld.2.1) ?_
                  intro A4 c4 W7 hown7 hlow7 hkeep7
                  refine ho hK (HeldB.low hHeld hlow7) fun hHeld=> ?_
                  clear hK K
                  refine rd 5 rfl fun K hK=> ?_
                  go_simp
                  refine ho hK (HeldB.alloc hHeld _) fun hHeld=> ?_
                  clear hK K
                  refine rd 6 rfl fun K hK=> ?_
                  refine step_moreN (by rfl) _ _ 131 (by rfl) (base:=W6.heap.size) (e:=136) (.agg #[.int .i64 0, .int .i64 0]) 2 16 (by omega) Tryz.underlying131 (by kernel_rfl) (by rfl) (v:= .slice A4 j c4) (by rfl) (hown7.alloc _) (by rfl) (rds_one W7 #[.int .i64 (d:Int), .int .i64 (a:Int)] 136 2 rfl) (rowCells_one [(d,a)]) (nm:=j+1) (by omega) (by omega) (by omega) (hHeld.2.1) ?_
                  intro A5 c5 W8 hown8 hlow8 hkeep8
                  refine ho hK (HeldB.low hHeld hlow8) fun hHeld=> ?_
                  clear hK K
                  refine rd 10 rfl fun K hK=> ?_
                  refine step_moreN (by rfl) _ _ 131 (by rfl) (base:=W6.heap.size) (e:=136) (.agg #[.int .i64 0, .int .i64 0]) 2 16 (by omega) Tryz.underlying131 (by kernel_rfl) (by rfl) (v:= .slice A5 (j+1) c5) (by rfl) (hown8) (by rfl) (by have:=(Rds.of_own (own_below ownX hHeld.1)).behind (A':=if c3=j then some ⟨g3,0,none⟩ else some ⟨g3,j*2,none⟩) j (out.length - j) q2 (by omega) (fun h=>by first|(exfalso;omega)|(rw [if_neg (by omega)];simp [add_zero_off]));rw [rowCells_drop] at this;exact this) (rowCells_one _) (nm:=out.length+1) (by omega) (by omega) (by omega) (hHeld.2.1) ?_
                  intro A6 c6 W9 hown9 hlow9 hkeep9
                  refine ho hK (HeldB.low hHeld hlow9) fun hHeld=> ?_
                  clear hK K
                  have hfin:=hHeld.1
                  refine rd 11 rfl fun K hK=> ?_
                  go_simp
                  refine ho hK hHeld fun hHeld=> ?_
                  clear hK K
                  refine wpAnyH_done (by kernel_rfl) ?_ _
                  refine NoPanic.normal ?_
                  have HF:Hid (W9.ownsRow w.heap.size 136 2 (.slice A6 (out.length+1) c6) (refFold ts (upto ts d (a+1))).length (rowCells (refFold ts (upto ts d (a+1))))):=Lib.hid (by
                    rw [upto_snoc,refFold_snoc,←Hout.out,refIns_length]
                    unfold refIns
                    rw [Hat.out,rowCells_append,show (d,a)::out.drop j=[(d,a)]++out.drop j from rfl,rowCells_append,←List.append_assoc]
                    exact own_mono hown9 (by omega))
                  have HBF:=Lib.hid (below_step (below_step HBV.out hBX) hfin)
                  clear hown9 hlow9 hkeep9 hfin ownX ownD ckX
                  go_wp2_with fail
                  all_goals
                    go_roundg k2
                    case measure=>omega
                    case rel=>exact ⟨a+1,by first|rfl|(rw [E4.out];rfl),by omega,HF,HBF⟩
                · go_simp
                  refine ho hK (HeldB.alloc hHeld _) fun hHeld=> ?_
                  clear hK K
                  refine rd 3 rfl fun K hK=> ?_
                  refine step_moreN (by rfl) _ _ 131 (by rfl) (base:=W6.heap.size) (e:=136) (.agg #[.int .i64 0, .int .i64 0]) 2 16 (by omega) Tryz.underlying131 (by kernel_rfl) (by rfl) (v:= .slice none 0 0) (by rfl) (own_nil _ _ _ _) (by rfl) (by have:=(Rds.of_own (ownD.alloc (.cells #[.int .i64 (d:Int), .int .i64 (a:Int)] 136))).part j q2;rw [rowCells_take] at this;exact this) (rowCells_one _) (nm:=j) (by omega) (by omega) (by omega) (hHeld.2.1) ?_
                  intro A4 c4 W7 hown7 hlow7 hkeep7
                  refine ho hK (HeldB.low hHeld hlow7) fun hHeld=> ?_
                  clear hK K
                  refine rd 6 rfl fun K hK=> ?_
                  refine step_moreN (by rfl) _ _ 131 (by rfl) (base:=W6.heap.size) (e:=136) (.agg #[.int .i64 0, .int .i64 0]) 2 16 (by omega) Tryz.underlying131 (by kernel_rfl) (by rfl) (v:= .slice A4 j c4) (by rfl) (hown7) (by rfl) ((rds_one W6d #[.int .i64 (d:Int), .int .i64 (a:Int)] 136 2 rfl).below (hkeep7 _ (Nat.le_refl _) (by simp [Value.ownBlock]))) (rowCells_one [(d,a)]) (nm:=j+1) (by omega) (by omega) (by omega) (hHeld.2.1) ?_
                  intro A5 c5 W8 hown8 hlow8 hkeep8
                  refine ho hK (HeldB.low hHeld hlow8) fun hHeld=> ?_
                  clear hK K
                  refine rd 10 rfl fun K hK=> ?_
                  refine step_moreN (by rfl) _ _ 131 (by rfl) (base:=W6.heap.size) (e:=136) (.agg #[.int .i64 0, .int .i64 0]) 2 16 (by omega) Tryz.underlying131 (by kernel_rfl) (by rfl) (v:= .slice A5 (j+1) c5) (by rfl) (hown8) (by rfl) (by have:=(Rds.of_own (own_below ownX hHeld.1)).behind (A':=if c3=j then some ⟨g3,0,none⟩ else some ⟨g3,j*2,none⟩) j (out.length - j) q2 (by omega) (fun h=>by first|(exfalso;omega)|(rw [if_neg (by omega)];simp [add_zero_off]));rw [rowCells_drop] at this;exact this) (rowCells_one _) (nm:=out.length+1) (by omega) (by omega) (by omega) (hHeld.2.1) ?_
                  intro A6 c6 W9 hown9 hlow9 hkeep9
                  refine ho hK (HeldB.low hHeld hlow9) fun hHeld=> ?_
                  clear hK K
                  have hfin:=hHeld.1
                  refine rd 11 rfl fun K hK=> ?_
                  go_simp
                  refine ho hK hHeld fun hHeld=> ?_
                  clear hK K
                  refine wpAnyH_done (by kernel_rfl) ?_ _
                  refine NoPanic.normal ?_
                  have HF:Hid (W9.ownsRow w.heap.size 136 2 (.slice A6 (out.length+1) c6) (refFold ts (upto ts d (a+1))).length (rowCells (refFold ts (upto ts d (a+1))))):=Lib.hid (by
                    rw [upto_snoc,refFold_snoc,←Hout.out,refIns_length]
                    unfold refIns
                    rw [Hat.out,rowCells_append,show (d,a)::out.drop j=[(d,a)]++out.drop j from rfl,rowCells_append,←List.append_assoc]
                    exact own_mono hown9 (by omega))
                  have HBF:=Lib.hid (below_step (below_step HBV.out hBX) hfin)
                  clear hown9 hlow9 hkeep9 hfin ownX ownD ckX
                  go_wp2_with fail
                  all_goals
                    go_roundg k2
                    case measure=>omega
                    case rel=>exact ⟨a+1,by first|rfl|(rw [E4.out];rfl),by omega,HF,HBF⟩
            · obtain rfl:j=out.length:=by omega
              have j1:decide ((out.length:Int)<(out.length:Int))=false:=by simp
              have Hat:Hid (refAt ts out (d,a)=out.length):=Lib.hid (refAt_of (Nat.le_refl _) Hpre.out (fun y hy=>by simp at hy))
              clear Hpre
              go_wp2_with fail
              refine wp_region_noPanic ?_
              refine wp_region_held_drew (S:=fun v=>Below wr.heap.size wr v∧(wr.heap.size≤v.heap.size)∧ ∀b o,b<wr.heap.size→v.cell? ⟨b,o,none⟩=wr.cell? ⟨b,o,none⟩) (by kernel_rfl) (HeldB.start wr) (fun hHeld=> ?_)
              have hB_d:Below wr.heap.size wr wr.drew:=(Below.refl _ _).drew
              generalize wr.drew=wrd at hHeld hB_d⊢
              refine ta 0 hHeld ?_
              refine ta 1 hHeld ?_
              refine ta 2 hHeld ?_
              refine ta 3 hHeld ?_
              refine ta 4 hHeld ?_
              refine tno 5 hHeld ?_
              refine tno 6 hHeld ?_
              refine tno 7 hHeld ?_
              refine tno 8 hHeld ?_
              refine tno 9 hHeld ?_
              refine tno 10 hHeld ?_
              refine tno 11 hHeld ?_
              refine ta 12 hHeld ?_
              refine wpAnyH_done (by kernel_rfl) ?_ _
              refine NoPanic.normal ?_
              have hBX:Below V.heap.size V wrd:=below_step hB2 hB_d
              clear hHeld hB_d
              go_wp2_with fail
              have ownX:=own_below HownV.out hBX
              have krX:=keep_blk hBX KR.out
              have ckX:=cells_of krX
              have lkX:=lt_of krX
              have q0:out.length≤c3:=own_cap HownV.out
              have q1:out.length≤c3:=by omega
              have q2:out.length≤out.length:=by omega
              refine wp_region_noPanic ?_
              refine wp_region_held_drew (S:=fun v=>Below wrd.heap.size wrd v∧(wrd.heap.size≤v.heap.size)∧ ∀b o,b<wrd.heap.size→v.cell? ⟨b,o,none⟩=wrd.cell? ⟨b,o,none⟩) (by kernel_rfl) (HeldB.start wrd) (fun hHeld=> ?_)
              have hB_d:Below wrd.heap.size wrd wrd.drew:=(Below.refl _ _).drew
              generalize wrd.drew=wrdd at hHeld hB_d⊢
              refine ta 0 hHeld ?_
              refine ta 1 hHeld ?_
              refine ta 2 hHeld ?_
              refine ta 4 hHeld ?_
              refine ta 7 hHeld ?_
              refine ta 8 hHeld ?_
              refine ta 9 hHeld ?_
              have ownD:=own_below ownX hB_d
              have hszX:=hBX.size
              have hszD:=hB_d.size
              skip
              refine wpAnyH_ready (rs:=[3,5]) (by kernel_rfl) (by simp) ?_
              refine ready_at rfl (fun K hK=> ?_) (ready_at rfl (fun K hK=> ?_) AllReadyH.nil)
              · refine step_moreN (by rfl) _ _ 131 (by rfl) (base:=wrd.heap.size) (e:=136) (.agg #[.int .i64 0, .int .i64 0]) 2 16 (by omega) Tryz.underlying131 (by kernel_rfl) (by rfl) (v:= .slice none 0 0) (by rfl) (own_nil _ _ _ _) (by rfl) (by have:=(Rds.of_own (ownD)).part out.length q2;rw [rowCells_take] at this;exact this) (rowCells_one _) (nm:=out.length) (by omega) (by omega) (by omega) (hHeld.2.1) ?_
                intro A4 c4 W7 hown7 hlow7 hkeep7
                refine ho hK (HeldB.low hHeld hlow7) fun hHeld=> ?_
                clear hK K
                refine rd 5 rfl fun K hK=> ?_
                go_simp
                refine ho hK (HeldB.alloc hHeld _) fun hHeld=> ?_
                clear hK K
                refine rd 6 rfl fun K hK=> ?_
                refine step_moreN (by rfl) _ _ 131 (by rfl) (base:=wrd.heap.size) (e:=136) (.agg #[.int .i64 0, .int .i64 0]) 2 16 (by omega) Tryz.underlying131 (by kernel_rfl) (by rfl) (v:= .slice A4 out.length c4) (by rfl) (hown7.alloc _) (by rfl) (rds_one W7 #[.int .i64 (d:Int), .int .i64 (a:Int)] 136 2 rfl) (rowCells_one [(d,a)]) (nm:=out.length+1) (by omega) (by omega) (by omega) (hHeld.2.1) ?_
                intro A5 c5 W8 hown8 hlow8 hkeep8
                refine ho hK (HeldB.low hHeld hlow8) fun hHeld=> ?_
                clear hK K
                refine rd 10 rfl fun K hK=> ?_
                refine step_moreN (by rfl) _ _ 131 (by rfl) (base:=wrd.heap.size) (e:=136) (.agg #[.int .i64 0, .int .i64 0]) 2 16 (by omega) Tryz.underlying131 (by kernel_rfl) (by rfl) (v:= .slice A5 (out.length+1) c5) (by rfl) (hown8) (by rfl) (by have:=(Rds.of_own (own_below ownX hHeld.1)).behind (A':=if c3=out.length then A3 else A3.map (·.add (out.length*2))) out.length 0 q2 (by omega) (fun h=>by first|(exfalso;omega)|(rw [if_neg (by omega)];simp [add_zero_off]));rw [rowCells_drop] at this;exact this) (rowCells_one _) (nm:=out.length+1) (by omega) (by omega) (by omega) (hHeld.2.1) ?_
                intro A6 c6 W9 hown9 hlow9 hkeep9
                refine ho hK (HeldB.low hHeld hlow9) fun hHeld=> ?_
                clear hK K
                have hfin:=hHeld.1
                refine rd 11 rfl fun K hK=> ?_
                go_simp
                refine ho hK hHeld fun hHeld=> ?_
                clear hK K
                refine wpAnyH_done (by kernel_rfl) ?_ _
                refine NoPanic.normal ?_
                have HF:Hid (W9.ownsRow w.heap.size 136 2 (.slice A6 (out.length+1) c6) (refFold ts (upto ts d (a+1))).length (rowCells (refFold ts (upto ts d (a+1))))):=Lib.hid (by
                  rw [upto_snoc,refFold_snoc,←Hout.out,refIns_length]
                  unfold refIns
                  rw [Hat.out,rowCells_append,show (d,a)::out.drop out.length=[(d,a)]++out.drop out.length from rfl,rowCells_append,←List.append_assoc]
                  exact own_mono hown9 (by omega))
                have HBF:=Lib.hid (below_step (below_step HBV.out hBX) hfin)
                clear hown9 hlow9 hkeep9 hfin ownX ownD ckX
                go_wp2_with fail
                all_goals
                  go_roundg k2
                  case measure=>omega
                  case rel=>exact ⟨a+1,by first|rfl|(rw [E4.out];rfl),by omega,HF,HBF⟩
              · go_simp
                refine ho hK (HeldB.alloc hHeld _) fun hHeld=> ?_
                clear hK K
                refine rd 3 rfl fun K hK=> ?_
                refine step_moreN (by rfl) _ _ 131 (by rfl) (base:=wrd.heap.size) (e:=136) (.agg #[.int .i64 0, .int .i64 0]) 2 16 (by omega) Tryz.underlying131 (by kernel_rfl) (by rfl) (v:= .slice none 0 0) (by rfl) (own_nil _ _ _ _) (by rfl) (by have:=(Rds.of_own (ownD.alloc (.cells #[.int .i64 (d:Int), .int .i64 (a:Int)] 136))).part out.length q2;rw [rowCells_take] at this;exact this) (rowCells_one _) (nm:=out.length) (by omega) (by omega) (by omega) (hHeld.2.1) ?_
                intro A4 c4 W7 hown7 hlow7 hkeep7
                refine ho hK (HeldB.low hHeld hlow7) fun hHeld=> ?_
                clear hK K
                refine rd 6 rfl fun K hK=> ?_
                refine step_moreN (by rfl) _ _ 131 (by rfl) (base:=wrd.heap.size) (e:=136) (.agg #[.int .i64 0, .int .i64 0]) 2 16 (by omega) Tryz.underlying131 (by kernel_rfl) (by rfl) (v:= .slice A4 out.length c4) (by rfl) (hown7) (by rfl) ((rds_one wrdd #[.int .i64 (d:Int), .int .i64 (a:Int)] 136 2 rfl).below (hkeep7 _ (Nat.le_refl _) (by simp [Value.ownBlock]))) (rowCells_one [(d,a)]) (nm:=out.length+1) (by omega) (by omega) (by omega) (hHeld.2.1) ?_
                intro A5 c5 W8 hown8 hlow8 hkeep8
                refine ho hK (HeldB.low hHeld hlow8) fun hHeld=> ?_
                clear hK K
                refine rd 10 rfl fun K hK=> ?_
                refine step_moreN (by rfl) _ _ 131 (by rfl) (base:=wrd.heap.size) (e:=136) (.agg #[.int .i64 0, .int .i64 0]) 2 16 (by omega) Tryz.underlying131 (by kernel_rfl) (by rfl) (v:= .slice A5 (out.length+1) c5) (by rfl) (hown8) (by rfl) (by have:=(Rds.of_own (own_below ownX hHeld.1)).behind (A':=if c3=out.length then A3 else A3.map (·.add (out.length*2))) out.length 0 q2 (by omega) (fun h=>by first|(exfalso;omega)|(rw [if_neg (by omega)];simp [add_zero_off]));rw [rowCells_drop] at this;exact this) (rowCells_one _) (nm:=out.length+1) (by omega) (by omega) (by omega) (hHeld.2.1) ?_
                intro A6 c6 W9 hown9 hlow9 hkeep9
                refine ho hK (HeldB.low hHeld hlow9) fun hHeld=> ?_
                clear hK K
                have hfin:=hHeld.1
                refine rd 11 rfl fun K hK=> ?_
                go_simp
                refine ho hK hHeld fun hHeld=> ?_
                clear hK K
                refine wpAnyH_done (by kernel_rfl) ?_ _
                refine NoPanic.normal ?_
                have HF:Hid (W9.ownsRow w.heap.size 136 2 (.slice A6 (out.length+1) c6) (refFold ts (upto ts d (a+1))).length (rowCells (refFold ts (upto ts d (a+1))))):=Lib.hid (by
                  rw [upto_snoc,refFold_snoc,←Hout.out,refIns_length]
                  unfold refIns
                  rw [Hat.out,rowCells_append,show (d,a)::out.drop out.length=[(d,a)]++out.drop out.length from rfl,rowCells_append,←List.append_assoc]
                  exact own_mono hown9 (by omega))
                have HBF:=Lib.hid (below_step (below_step HBV.out hBX) hfin)
                clear hown9 hlow9 hkeep9 hfin ownX ownD ckX
                go_wp2_with fail
                all_goals
                  go_roundg k2
                  case measure=>omega
                  case rel=>exact ⟨a+1,by first|rfl|(rw [E4.out];rfl),by omega,HF,HBF⟩
        · obtain rfl:a=t.length+1:=by omega
          have m1:decide (((t.length+1:Nat):Int)≤(t.length:Int))=false:=by simp;omega
          have hown:=Hown.out
          rw [←hgd,upto_next] at hown
          have HO:=Lib.hid hown;clear hown Hown
          go_wp2_with fail
          go_roundg k
          case measure=>omega
          case rel=>exact ⟨d+1,by first|rfl|(rw [E3.out];rfl),by omega,HO,HB⟩
    · have hi:d=ts.length:=by omega
      have n1:decide ((d:Int)<(ts.length:Int))=false:=by simpa using hlt
      have hown:=Hown.out
      rw [hi] at hown
      have HO:=Lib.hid hown;clear hown Hown
      go_wp2_with fail
      go_ret
      exact ⟨u3,rfl,HO.out,HB.out⟩
end
section
open Go.RowKit
attribute [local go_sem ↓] Go.wp_at_zero Go.wp_at_succ
attribute [local go_sem] str_len
theorem sorted_calls (v : Value) (ts : List (List UInt8)) (hn : ts.length ≤ 50000) (w : World) (h : Rk w 1 v ts.length (ts.map strOf)) :
    Calls Tryz.prog 75 #[v] w fun e w'=> ∃v',e= .returned v'∧w'.ownsRow w.heap.size 136 2 v' (refSorted ts).length (rowCells (refSorted ts))∧Below w.heap.size w w':=by
  unfold refSorted
  cases hrt:refRight ts with
  | true=>rw [if_pos rfl];exact sorted_walk v ts hrt w h
  | false=>
    rw [if_neg (by decide)]
    have HK:=Lib.hid h
    obtain ⟨h1,A,cap,rfl,h2⟩:=h
    clear h1 h2
    go_enter Tryz.func75,Tryz.ntmps75
    go_wp2_with fail
    refine cg fun V0 hV_V0=> ?_
    have hB:=Below.refl w.heap.size w
    refine neb0 hV_V0 hB ?_;clear hB;intro z_V0 hB
    clear hV_V0
    refine rC (rright_calls _ ts hn _ (HK.out.below hB)) fun W0 hb_W0=> ?_
    refine beb0 hb_W0 hB ?_;clear hb_W0 hB;intro z_W0 hB
    rw [hrt]
    go_wp2_with fail
    go_ret
    exact ⟨_,rfl,own_nil _ _ _ _,hB⟩
def intCells (l:List Int):List Value:=l.map fun x=> .int .i64 x
theorem step_id (j n:Nat) (h:j≤n) (hn:n≤50000):wrap64 (j:Int)=(j:Int):=IntWalk.wrap64_in _ (by omega)
theorem symbols_calls (v : Value) (ts : List (List UInt8)) (hn : ts.length ≤ 50000) (hn2 : ∀ t, t ∈ ts → t.length ≤ 50000) (w : World) (h : Rk w 1 v ts.length (ts.map strOf)) :
    Calls Tryz.prog 42 #[v] w fun e w'=> ∃v',e= .returned v'∧w'.ownsRow w.heap.size 3 1 v' (refSorted ts).length (intCells ((refSorted ts).map (symOf ts)))∧Below w.heap.size w w':=by
  obtain ⟨R,hR⟩: ∃R,R=refSorted ts:=⟨_,rfl⟩
  rw [←hR]
  have HK:=Lib.hid h
  obtain ⟨h1,A,cap,rfl,h2⟩:=h
  have hval: ∀x,x∈R→ ∃t,ts[x.1]? =some t∧x.2≤t.length:=fun x hx=>sorted_valid (hR▸hx)
  have hsm:R.length≤500:=by rw [hR];exact sorted_small ts
  have Hval:=Lib.hid hval;have HR:=Lib.hid hR
  clear h1 h2 hval hR
  go_enter Tryz.func42,Tryz.ntmps42
  go_wp2_with fail
  refine cg fun V0 hV_V0=> ?_
  have hB:=Below.refl w.heap.size w
  refine neb0 hV_V0 hB ?_;clear hB;intro z_V0 hB
  clear hV_V0
  refine (sorted_calls _ ts hn _ (HK.out.below hB)).mono ?_
  rintro e1 W1 ⟨v1,rfl,hown1,hb1⟩
  have hB1:=below_step hB hb1
  rw [←HR.out] at hown1
  obtain ⟨-,A1,c1,rfl,hx1⟩:=Rx.of_own hown1
  have HX:=Lib.hid (Rk.of_own hown1);have HB1:=Lib.hid hB1
  have hsz1:=hB1.size
  clear hown1 hb1 hB hB1 hx1
  go_wp2_with fail
  go_loopg [4,5] R.length (fun k p q wr=> ∃i:Nat,q= .int .i64 (i:Int)∧i+k=R.length∧Hid (wr.ownsRow W1.heap.size 3 1 p i (intCells ((R.take i).map (symOf ts))))∧Hid (Below W1.heap.size W1 wr))
  case atStart=>exact ⟨0,rfl,by omega,Lib.hid (own_nil _ _ _ _),Lib.hid (Below.refl _ _)⟩
  case round=>
    obtain ⟨i,rfl,hk,Hown,HB⟩:=hrel
    by_cases hlt:i<R.length
    · obtain ⟨k,rfl⟩: ∃k,gk=k+1:=⟨gk - 1,by omega⟩
      obtain ⟨x,hx⟩:=at_some hlt
      obtain ⟨t,ht,hxt⟩:=Hval.out x (List.mem_of_getElem? hx)
      obtain ⟨-,A',cap',hv,h2⟩:=HX.out
      obtain ⟨g1,cs1,T1,rfl,kg1',hcs1⟩:=h2 (by omega)
      have kg1:=keep_blk HB.out kg1'
      have w1a:=cells_of kg1'
      have w1l:=lt_of kg1'
      obtain ⟨rfl, -,rfl⟩:=Value.slice.inj hv
      have c1a:cs1[i*2]? =some (.int .i64 (x.1:Int)):=(hcs1 _ (by omega)).trans (rowCells_at hx).1
      have c1b:cs1[i*2+1]? =some (.int .i64 (x.2:Int)):=(hcs1 _ (by omega)).trans (rowCells_at hx).2
      clear h2 hv hcs1
      have htake:Hid (intCells ((R.take (i+1)).map (symOf ts))=intCells ((R.take i).map (symOf ts))++[.int .i64 (symOf ts x)]):=Lib.hid (by
        unfold intCells
        rw [List.take_succ_eq_append_getElem hlt,List.map_append,List.map_append,(List.getElem_eq_iff hlt).2 hx];rfl)
      have n1:decide ((i:Int)<(R.length:Int))=true:=by simpa using hlt
      have n2:(i:Int)<(R.length:Int):=by omega
      have E3:=Lib.hid (step_wrap i 500 (by omega) (by omega))
      have hw1:=HB.out.size
      by_cases h0:x.2=0
      · have hs:Hid (symOf ts x=0):=Lib.hid (by unfold symOf;rw [if_pos h0])
        have d0:((x.2:Int)==0)=true:=by rw [h0];rfl
        clear h0 hxt
        have c_kg1:=f3 kg1;have l_kg1wr:=lt_of kg1
        go_wp2_with (at_builtin;refine wpList_push _ (by rfl) _ _ 43 (by rfl) (W1.heap.size) 3 (.int .i64 0) 1 8 Tryz.underlying43 (by kernel_rfl) (by rfl) (by omega) _ _ _ (by rfl) Hown.out _ (by rfl) (by rfl) (by simp [Value.oneCell']) (by unfold maxLen;omega) (by omega) (by omega) ?_;intro g_W c_W W5 hown_W hlow_W hlt_W)
        go_wp2_with fail
        go_roundg k
        case measure=>omega
        case rel=>exact ⟨i+1,by first|rfl|(rw [E3.out];rfl),by omega,Lib.hid (by rw [htake.out,hs.out];exact hown_W),Lib.hid (low_step HB.out (Nat.le_refl _) hlow_W)⟩
      · obtain ⟨j,hj⟩: ∃j:Nat,x.2=j+1:=⟨x.2 - 1,by omega⟩
        obtain ⟨b,hb⟩:=at_some (show j<t.length by omega)
        have htl:=hn2 t (List.mem_of_getElem? ht)
        have hs:Hid (symOf ts x=(b.toNat:Int)+1):=Lib.hid (by unfold symOf;rw [if_neg h0,getD_at ht,hj];simp [List.getD,hb])
        have d0:((x.2:Int)==0)=false:=by rw [beq_eq_false_iff_ne];omega
        obtain ⟨hd, -⟩:=List.getElem?_eq_some_iff.1 ht
        obtain ⟨-,A2,cap2,hv2,h3⟩:=HK.out.below HB1.out
        obtain ⟨g2,cs2,T2,rfl,kg2',hcs2⟩:=h3 (by omega)
        have kg2:=keep_blk HB.out kg2'
        have w2a:=cells_of kg2'
        have w2l:=lt_of kg2'
        obtain ⟨rfl, -,rfl⟩:=Value.slice.inj hv2
        have c2a:cs2[x.1]? =some (strOf t):=by rw [hcs2 _ (by omega),List.getElem?_map,ht];rfl
        have n3:(x.1:Int)<(ts.length:Int):=by omega
        have hix:=str_index t j b hb
        have e6:Hid (wrap64 ((x.2:Int) - 1)=(j:Int)):=Lib.hid (by rw [hj,IntWalk.wrap64_in _ (by omega)];omega)
        have hb8:=b.toNat_lt
        have e7:wrap64 ((b.toNat:Int)+1)=(b.toNat:Int)+1:=IntWalk.wrap64_in _ (by omega)
        have E7:=Lib.hid e7;clear e7
        have hxj:(x.2:Int)=(j:Int)+1:=by omega
        rw [hxj] at c1b d0
        have e9:wrap64 (j:Int)=(j:Int):=step_id j t.length (by omega) (by omega)
        have E9:=Lib.hid e9;clear e9
        have E10:=Lib.hid (step_id b.toNat 256 (by omega) (by omega))
        have e8:wrap64 ((j:Int)+1 - 1)=(j:Int):=by rw [show (j:Int)+1 - 1=(j:Int) by omega];exact step_id j t.length (by omega) (by omega)
        clear h0 hxt h3 hv2 hcs2 hb e6 hxj
        have c_kg1:=f3 kg1;have l_kg1wr:=lt_of kg1
        have c_kg2:=f3 kg2;have l_kg2wr:=lt_of kg2
        go_wp2_with fail
        refine wp_region_noPanic ?_
        refine wp_region_held_drew (S:=fun v=>Below W1.heap.size W1 v∧(W1.heap.size≤v.heap.size)∧ ∀b o,b<W1.heap.size→v.cell? ⟨b,o,none⟩=W1.cell? ⟨b,o,none⟩) (by kernel_rfl) (HeldB.of HB.out.drew) (fun hHeld=> ?_)
        have hB_d:Below wr.heap.size wr wr.drew:=(Below.refl _ _).drew
        generalize wr.drew=wrd at hHeld hB_d⊢
        have e9:=E9.out
        have e7:=E7.out
        have e10:wrap64 (b.toNat:Int)=(b.toNat:Int):=E10.out
        refine ta 0 hHeld ?_
        refine ta 1 hHeld ?_
        refine ta 2 hHeld ?_
        refine ta 3 hHeld ?_
        refine ta 4 hHeld ?_
        refine ta 5 hHeld ?_
        refine ta 6 hHeld ?_
        refine ta 7 hHeld ?_
        refine ta 8 hHeld ?_
        refine ta 9 hHeld ?_
        refine ta 10 hHeld ?_
        refine ta 11 hHeld ?_
        refine ta 12 hHeld ?_
        refine ta 13 hHeld ?_
        refine ta 14 hHeld ?_
        refine ta 15 hHeld ?_
        refine ta 16 hHeld ?_
        refine ta 17 hHeld ?_
        simp only [e7]
        clear e7 e8 e9 e10
        refine rd 18 rfl fun K hK=> ?_
        go_simp
        refine ho hK (HeldB.alloc hHeld _) fun hHeld=> ?_
        clear hK K
        refine rd 19 rfl fun K hK=> ?_
        refine step_moreN (by rfl) _ _ 43 (by rfl) (base:=W1.heap.size) (e:=3) (.int .i64 0) 1 8 (by omega) Tryz.underlying43 (by kernel_rfl) (by rfl) (v:=u4) (by rfl) ((own_below Hown.out hB_d).alloc _) (by rfl) (rds_one wrd #[.int .i64 ((b.toNat:Int)+1)] 3 1 rfl) (by simp [Value.oneCell']) (nm:=i+1) rfl (by omega) (by omega) (by rw [siz_alloc];have:=hB_d.size;omega) ?_
        intro A5 c5 W8 hown8 hlow8 hkeep8
        have HB8:=Lib.hid (low_step (hHeld.1) (Nat.le_refl _) hlow8)
        refine ho hK (HeldB.of HB8.out) fun hHeld=> ?_
        clear hK K
        refine rd 20 rfl fun K hK=> ?_
        go_simp
        refine ho hK hHeld fun hHeld=> ?_
        clear hK K
        refine wpAnyH_done (by kernel_rfl) ?_ _
        refine NoPanic.normal ?_
        have HO8:Hid (W8.ownsRow W1.heap.size 3 1 (.slice A5 (i+1) c5) (i+1) (intCells ((R.take (i+1)).map (symOf ts)))):=Lib.hid (by rw [htake.out,hs.out];exact hown8)
        clear hown8 hlow8 hkeep8 w1a w2a hHeld
        go_wp2_with fail
        go_roundg k
        case measure=>omega
        case rel=>exact ⟨i+1,by first|rfl|(rw [E3.out];rfl),by omega,HO8,HB8⟩
    · have hi:i=R.length:=by omega
      have n1:decide ((i:Int)<(R.length:Int))=false:=by simpa using hlt
      have hown:=Hown.out
      rw [hi,List.take_length] at hown
      have HO:=Lib.hid (own_mono hown hsz1);clear hown Hown
      have HBF:=Lib.hid (below_step HB1.out HB.out)
      go_wp2_with fail
      go_ret
      exact ⟨u4,rfl,HO.out,HBF.out⟩
end
section
open Go.RowKit
attribute [local go_sem ↓] Go.wp_at_zero Go.wp_at_succ
attribute [local go_sem] str_len
variable {ap : Value} {s : Ar} {O : Nat → Prop}
theorem cell_same {w w':World} {a:Addr} (h:w'.heap[a.block]? =w.heap[a.block]?):w'.cell? a=w.cell? a:=by
 unfold World.cell?
 rw [h]
theorem Rd2.fr {w w':World} {X O O':Nat→Prop} {ad:Addr} {cap:Nat} {ds:List (Int×List UInt8)} (h:Rd2 w (.slice (some ad) ds.length cap) ds) (hF:Fr X O O' w w') (h1: ¬O ad.block) (h2: ¬X ad.block):Rd2 w' (.slice (some ad) ds.length cap) ds:=by
 obtain ⟨A,c,hv,hc⟩:=h
 obtain ⟨rfl, -,rfl⟩:=Value.slice.inj hv
 refine ⟨_,_,rfl,fun hn=> ?_⟩
 obtain ⟨ad',ha,hlt,hc⟩:=hc hn
 obtain rfl:=Option.some.inj ha
 have hb:=hF.block _ hlt h1 h2
 refine ⟨ad,rfl,Nat.lt_of_lt_of_le hlt hF.size,fun i d hd=> ?_⟩
 obtain ⟨c0,c1,c2⟩:=hc i d hd
 have hb':w'.heap[(ad.add (i*2)).block]? =w.heap[(ad.add (i*2)).block]? :=by rw [block_of_add];exact hb
 exact ⟨Nat.lt_of_lt_of_le c0 hF.size,(cell_same hb').trans c1,(cell_same (by exact hb')).trans c2⟩
theorem bRows_ok {rate:Int}: ∀{l:List (Int×Int×Int)} {i:Int} {b b':Bst},bRows rate l i b=some b'→b'.ok=true→b.ok=true
 | [],i,b,b',h,ho=>by cases h;exact ho
 | x::l,i,b,b',h,ho=>by
  unfold bRows at h
  cases hb:b.ok with
  | true=>rfl
  | false=>rw [hb,if_neg (by decide)] at h;cases h;rw [hb] at ho;cases ho
theorem build_calls (rate:Int) (hr1:1≤rate) (hr2:rate≤1000) (ds:List (Int×List UInt8)) (ad:Addr) (cap:Nat) (hne:ds≠[]) (hrt:refRight (ds.map (·.2))=true) (w:World) (hD:Rd2 w (.slice (some ad) ds.length cap) ds) (hO: ¬O ad.block) (hA:AP w ap s O)
  (B1 B2:Bst) (h1:bRows rate (rowsM ds) 0 ⟨s,true,Parts.zero,0⟩=some B1) (ho1:B1.ok=true) (h2:bTable (docsM ds) B1=some B2) (ho2:B2.ok=true) (root:Int) (s':Ar) (h3:bEnd B2=some (root,true,s')):
  Calls Tryz.prog 17 #[ap, .int .i64 rate, .slice (some ad) ds.length cap] w fun e w'=>e= .returned (.tuple #[.int .i64 root, .bool true])∧Did noX ap s' O w w':=by
 have hlen:0<ds.length:=List.length_pos_iff.2 hne
 obtain ⟨hn10,h40⟩:=right_len hrt
 rw [List.length_map] at hn10
 have d0:((ds.length:Int)==0)=false:=by rw [beq_eq_false_iff_ne];omega
 have HD:=Lib.hid hD;have H1:=Lib.hid h1;have H2:=Lib.hid h2;have H3:=Lib.hid h3;have H40:=Lib.hid h40;have HO:=Lib.hid hO
 clear hD h1 h2 h3 h40 hne
 obtain ⟨ts,hts⟩: ∃ts,ts=ds.map (·.2):=⟨_,rfl⟩
 have htl:ts.length=ds.length:=by rw [hts,List.length_map]
 rw [←hts] at hrt
 have H40':Hid (∀t,t∈ts→t.length≤50000):=Lib.hid (fun t ht=>by
  obtain ⟨i,hi,rfl⟩:=List.getElem_of_mem ht
  have:=(right_len hrt).2 i
  rw [getD_at (List.getElem?_eq_getElem hi)] at this
  omega)
 have Hts:=Lib.hid hts;clear hts
 obtain ⟨q,rfl⟩:=hA.ptr
 go_enter Tryz.func17,Tryz.ntmps17
 go_wp2_with fail
 refine cg fun V0 hV_V0=> ?_
 have hF:=Fr.refl (noX) O w
 refine nnf0 hV_V0 hA hF ?_;clear hA hF;intro hn_V0 z_V0 hA hF
 obtain ⟨ka,c_ka,o_ka,l_kaV0⟩:=nN hn_V0 hV_V0 (w.heap.size)
 clear hV_V0 hn_V0
 have hAV0:=hA
 refine (texts_calls _ ds (by omega) _ (HD.out.fr hF HO.out (fun h=>h))).mono ?_
 rintro e_W0 W0 ⟨v0,rfl,hown0,hb_W0⟩
 refine bef1 hb_W0 hA hF ka ?_;clear hb_W0 hA hF ka c_ka;intro z_W0 hA hF ka c_ka
 have hge0: ∀g,v0.ownBlock=some g→V0.heap.size≤g:=fun g hg=>(hown0.lt g hg).1
 obtain ⟨hl0,A0,c0,rfl,hx0⟩:=Rk.of_own hown0
 obtain ⟨g0,cs0,T0,rfl,kx,hcs0⟩:=hx0 (by omega)
 have o_kx: ¬O g0:=fun h=>by have:=hAV0.lt h;have:=hge0 g0 rfl;omega
 have HX0:Hid (∀V:World,V.heap[g0]? =some (.cells cs0 T0 (0,0))→Rk V 1 (.slice (some ⟨g0,0,none⟩) ds.length c0) ts.length (ts.map strOf)):=Lib.hid (fun V hV=>by
  rw [Hts.out,List.length_map]
  exact ⟨hl0,_,_,rfl,fun _=>⟨g0,cs0,T0,rfl,hV,hcs0⟩⟩)
 clear hAV0 hown0 hge0 hl0 hx0 hcs0
 have c_kx:=f3 kx;have l_kxW0:=lt_of kx
 go_wp2_with fail
 refine cg fun V1 hV_V1=> ?_
 refine nef2 hV_V1 hA hF ka kx ?_;clear hA hF ka kx c_ka c_kx;intro z_V1 hA hF ka c_ka kx c_kx
 clear hV_V1
 have hAV1:=hA
 refine (sorted_calls _ ts (by omega) _ (HX0.out _ kx)).mono ?_
 rintro e_W1 W1 ⟨v1,rfl,hown1,hb_W1⟩
 refine bef2 hb_W1 hA hF ka kx ?_;clear hb_W1 hA hF ka kx c_ka c_kx;intro z_W1 hA hF ka c_ka kx c_kx
 have hge1: ∀g,v1.ownBlock=some g→V1.heap.size≤g:=fun g hg=>(hown1.lt g hg).1
 have hRpos:0<(refSorted ts).length:=by
  unfold refSorted;rw [if_pos hrt,refFold_length]
  obtain ⟨n,hn⟩: ∃n,ts.length=n+1:=⟨ts.length - 1,by omega⟩
  rw [hn,←upto_next,upto_snoc];simp
 obtain ⟨hl1,A1,c1,rfl,hx1⟩:=Rk.of_own hown1
 obtain ⟨g1,cs1,T1,rfl,kr,hcs1⟩:=hx1 hRpos
 have o_kr: ¬O g1:=fun h=>by have:=hAV1.lt h;have:=hge1 g1 rfl;omega
 have hrows:Hid (∀(i:Nat) (r:Nat×Nat),(refSorted ts)[i]? =some r→cs1[i*2]? =some (Value.int .i64 (r.1:Int))∧cs1[i*2+1]? =some (Value.int .i64 (r.2:Int))):=Lib.hid (fun (i:Nat) (r:Nat×Nat) hr=>by
  have hi:=(List.getElem?_eq_some_iff.1 hr).1
  exact ⟨(hcs1 _ (by omega)).trans (rowCells_at hr).1,(hcs1 _ (by omega)).trans (rowCells_at hr).2⟩)
 clear hAV1 hown1 hge1 hl1 hx1 hcs1
 have c_kr:=f3 kr;have l_krW1:=lt_of kr
 go_wp2_with fail
 refine cg fun V2 hV_V2=> ?_
 refine nef3 hV_V2 hA hF ka kx kr ?_;clear hA hF ka kx kr c_ka c_kx c_kr;intro z_V2 hA hF ka c_ka kx c_kx kr c_kr
 clear hV_V2
 have hAV2:=hA
 refine (symbols_calls _ ts (by omega) H40'.out _ (HX0.out _ kx)).mono ?_
 rintro e_W2 W2 ⟨v2,rfl,hown2,hb_W2⟩
 refine bef3 hb_W2 hA hF ka kx kr ?_;clear hb_W2 hA hF ka kx kr c_ka c_kx c_kr;intro z_W2 hA hF ka c_ka kx c_kx kr c_kr
 have hge2: ∀g,v2.ownBlock=some g→V2.heap.size≤g:=fun g hg=>(hown2.lt g hg).1
 obtain ⟨hl2,A2,c2,rfl,hx2⟩:=Rk.of_own hown2
 obtain ⟨g2,cs2,T2,rfl,ks,hcs2⟩:=hx2 hRpos
 have o_ks: ¬O g2:=fun h=>by have:=hAV2.lt h;have:=hge2 g2 rfl;omega
 have hsyms:Hid (∀(i:Nat) (r:Nat×Nat),(refSorted ts)[i]? =some r→cs2[i]? =some (Value.int .i64 (symOf ts r))):=Lib.hid (fun (i:Nat) (r:Nat×Nat) hr=>by
  have hi:=(List.getElem?_eq_some_iff.1 hr).1
  refine (hcs2 _ (by omega)).trans ?_
  unfold intCells;rw [List.getElem?_map,List.getElem?_map,hr];rfl)
 clear hAV2 hown2 hge2 hl2 hx2 hcs2
 have c_ks:=f3 ks;have l_ksW2:=lt_of ks
 have hl2:=lt_of ks
 have hl1:=lt_of kr
 go_wp2_with fail
 refine wg fun V3 hV_V3=> ?_
 refine nnf3 hV_V3 hA hF ka kr ks ?_;clear hA hF ka kr ks c_ka c_kx c_kr c_ks kx;intro hn_V3 z_V3 hA hF ka c_ka kr c_kr ks c_ks
 obtain ⟨kp,c_kp,o_kp,l_kpV3⟩:=nN hn_V3 hV_V3 (W2.heap.size)
 obtain ⟨kt,c_kt,o_kt,l_ktV3⟩:=nN hn_V3 hV_V3 (W2.heap.size+1)
 clear hV_V3 hn_V3
 obtain ⟨R,hR⟩: ∃R,R=refSorted ts:=⟨_,rfl⟩
 rw [←hR] at hrows hsyms hRpos
 have hsm:R.length≤500:=by rw [hR];exact sorted_small ts
 have hlt1: ∀(i:Nat) (r:Nat×Nat),R[i]? =some r→ ∃d,ds[r.1]? =some d∧(rowsM ds)[i]? =some (d.1,(r.2:Int),symOf ts r):=by
  intro i r hr
  obtain ⟨t,ht, -⟩:=sorted_valid (hR▸List.mem_of_getElem? hr)
  have h1:=(List.getElem?_eq_some_iff.1 ht).1
  obtain ⟨d,hd⟩:=at_some (show r.1<ds.length by omega)
  refine ⟨d,hd,?_⟩
  unfold rowsM
  rw [←Hts.out,←hR,List.getElem?_map,hr]
  simp [List.getD,hd]
 have hLlen:(rowsM ds).length=R.length:=by unfold rowsM;rw [←Hts.out,←hR,List.length_map]
 have Hlt1:=Lib.hid hlt1;have HR:=Lib.hid hR
 simp only [←hR]
 clear hlt1 hR
 have hneq:g1≠W2.heap.size∧g1≠W2.heap.size+1∧g2≠W2.heap.size∧g2≠W2.heap.size+1∧w.heap.size≠W2.heap.size∧w.heap.size≠W2.heap.size+1∧w.heap.size<W2.heap.size:=by
  have:=lt_of ka
  omega
 obtain ⟨ne1,ne2,ne3,ne4,ne5,ne6,hww⟩:=hneq
 have hY: ∀x,twoX W2.heap.size (W2.heap.size+1) x→w.heap.size≤x:=by
  intro x hx
  rcases hx with rfl|rfl<;>omega
 have hdoc:Hid (Rd2 V3 (.slice (some ad) ds.length cap) ds):=Lib.hid (HD.out.fr hF HO.out (fun h=>h))
 have HF3:=Lib.hid hF
 go_loopg [14,40] R.length (fun k p1 p2 wr=> ∃(i:Nat) (st:Bst) (O':Nat→Prop),p1= .int .i64 st.n∧p2= .int .i64 (i:Int)∧i+k=R.length∧AP wr (.pointer q) st.s O'∧Hid (Fr noX O O' w wr)
  ∧wr.heap[W2.heap.size]? =some (.cells #[.int .i64 st.p.wave, .int .i64 st.p.marks, .int .i64 st.p.spots, .int .i64 st.p.table] 63 (0,0))∧wr.heap[W2.heap.size+1]? =some (.cells #[.bool st.ok] 4 (0,0))∧wr.heap[w.heap.size]? =some (.cells #[.pointer q] 25 (0,0))
  ∧wr.heap[g1]? =some (.cells cs1 T1 (0,0))∧wr.heap[g2]? =some (.cells cs2 T2 (0,0))∧ ¬O' (W2.heap.size)∧ ¬O' (W2.heap.size+1)∧ ¬O' w.heap.size∧ ¬O' g1∧ ¬O' g2∧ ¬O' ad.block∧Hid (Rd2 wr (.slice (some ad) ds.length cap) ds)∧Hid (bRows rate ((rowsM ds).drop i) i st=some B1))
 case atStart=>exact ⟨0,_,O,rfl,rfl,by omega,hA,HF3,kp,kt,ka,kr,ks,o_kp,o_kt,o_ka,o_kr,o_ks,HO.out,hdoc,H1⟩
 case round=>
  clear ka kr ks kp kt c_ka c_kr c_ks c_kp c_kt hA hF hdoc HF3 o_kp o_kt o_ka o_kr o_ks
  obtain ⟨i,st,O1,rfl,rfl,hk,hA,HF,kp,kt,ka,kr,ks,o_kp,o_kt,o_ka,o_kr,o_ks,oD,hdoc,Hb⟩:=hrel
  have hok:=bRows_ok Hb.out ho1
  by_cases hlt:i<R.length
  ·
   obtain ⟨k,rfl⟩: ∃k,gk=k+1:=⟨gk - 1,by omega⟩
   obtain ⟨r,hr⟩:=at_some hlt
   obtain ⟨d,hd,hx⟩:=Hlt1.out i r hr
   have hb:=Hb.out
   rw [drop_at hx] at hb
   unfold bRows at hb
   rw [hok,if_pos rfl] at hb
   obtain ⟨st2,hst2,hb2⟩:=Option.bind_eq_some_iff.1 hb
   unfold bStep at hst2
   obtain ⟨r1,hr1',hst2⟩:=Option.bind_eq_some_iff.1 hst2
   dsimp only at hr1' hst2
   obtain ⟨r2,hr2',hst2⟩:=Option.bind_eq_some_iff.1 hst2
   obtain ⟨t1,ht1⟩: ∃t,nextA st.ok st.p.wave r1=t:=⟨_,rfl⟩
   rw [ht1] at hr2' hst2
   obtain ⟨t2,ht2⟩: ∃t,nextA t1.2.1 st.p.marks r2=t:=⟨_,rfl⟩
   rw [ht2] at hst2
   have Hr1:=Lib.hid hr1';have Hr2:=Lib.hid hr2';have Hst2:=Lib.hid hst2;have Hb2:=Lib.hid hb2;have Ht1:=Lib.hid ht1;have Ht2:=Lib.hid ht2
   obtain ⟨rc1,rc2⟩:=hrows.out i r hr
   have rc3:=hsyms.out i r hr
   have n1:decide ((i:Int)<(R.length:Int))=true:=by simpa using hlt
   have n2:(i:Int)<(R.length:Int):=by omega
   have E3:=Lib.hid (step_wrap i 500 (by omega) (by omega))
   have hd1:=(List.getElem?_eq_some_iff.1 hd).1
   have n3:(r.1:Int)<(ds.length:Int):=by omega
   have Hd:=Lib.hid hd;have Hlt:=Lib.hid hlt
   clear hb hr1' hr2' hst2 hb2 ht1 ht2 hr hx hd hlt Hb hd1
   have hF:=Fr.refl ((twoX W2.heap.size (W2.heap.size+1))) O1 wr
   have c_ka:=f3 ka;have l_kawr:=lt_of ka
   have c_kr:=f3 kr;have l_krwr:=lt_of kr
   have c_ks:=f3 ks;have l_kswr:=lt_of ks
   have c_kp:=f3 kp;have l_kpwr:=lt_of kp
   have c_kt:=f3 kt;have l_ktwr:=lt_of kt
   go_wp2_with fail
   refine wg fun V4 hV_V4=> ?_
   refine nef5 hV_V4 hA hF ka kr ks kp kt ?_;clear hA hF ka kr ks kp kt c_ka c_kr c_ks c_kp c_kt;intro z_V4 hA hF ka c_ka kr c_kr ks c_ks kp c_kp kt c_kt
   clear hV_V4
   refine dr (fun v=>Sm v V4 (w.heap.size)∧Sm v V4 (g1)∧Sm v V4 (g2)∧Sm v V4 (W2.heap.size)∧Sm v V4 (W2.heap.size+1)∧(V4.heap.size≤v.heap.size)∧True) ⟨fun _=>rfl,fun _=>rfl,fun _=>rfl,fun _=>rfl,fun _=>rfl,Nat.le_refl _,trivial⟩ fun V4d hV_V4d hHeld=> ?_
   have v_ka:=c_ka.1;have v_kr:=c_kr.1;have v_ks:=c_ks.1;have v_kp:=c_kp.1;have v_kt:=c_kt.1
   refine nef5 hV_V4d hA hF ka kr ks kp kt ?_;clear hA hF ka kr ks kp kt c_ka c_kr c_ks c_kp c_kt;intro z_V4d hA hF ka c_ka kr c_kr ks c_ks kp c_kp kt c_kt
   clear hV_V4d
   refine ta 0 hHeld ?_
   refine ta 1 hHeld ?_
   refine ta 2 hHeld ?_
   refine ta 3 hHeld ?_
   refine ta 4 hHeld ?_
   refine ta 5 hHeld ?_
   refine ta 6 hHeld ?_
   refine ta 7 hHeld ?_
   refine rd 8 rfl fun K hK=> ?_
   go_simp
   try simp only [IntWalk.i64_left]
   refine wC (wInsert_calls st.s O1 _ _ _ r1 Hr1.out _ hA) fun W5 O2 hA_W5 hf_W5=> ?_
   refine wif5 hf_W5 hF ka o_ka kr o_kr ks o_ks kp o_kp kt o_kt ?_;clear hA hF ka o_ka kr o_kr ks o_ks kp o_kp kt o_kt c_ka c_kr c_ks c_kp c_kt hf_W5;intro z_W5 hF ka c_ka o_ka kr c_kr o_kr ks c_ks o_ks kp c_kp o_kp kt c_kt o_kt;have hA:=hA_W5;clear hA_W5
   refine ho hK ⟨vv c_ka v_ka,vv c_kr v_kr,vv c_ks v_ks,vv c_kp v_kp,vv c_kt v_kt,by omega,trivial⟩ fun hHeld=> ?_
   clear hK K
   refine ta 9 hHeld ?_
   refine ta 10 hHeld ?_
   refine ta 11 hHeld ?_
   refine rd 12 rfl fun K hK=> ?_
   go_simp
   refine ho hK hHeld fun hHeld=> ?_
   clear hK K
   refine rd 13 rfl fun K hK=> ?_
   go_simp
   refine ho hK hHeld fun hHeld=> ?_
   clear hK K
   refine wd ?_
   go_wp2_with fail
   refine cg fun V5 hV_V5=> ?_
   refine nef5 hV_V5 hA hF ka kr ks kp kt ?_;clear hA hF ka kr ks kp kt c_ka c_kr c_ks c_kp c_kt;intro z_V5 hA hF ka c_ka kr c_kr ks c_ks kp c_kp kt c_kt
   clear hV_V5
   refine tC (next_t (W2.heap.size+1) w.heap.size st.ok st.p.wave r1 t1 Ht1.out _ hA kt ka o_kt o_ka ne6) fun W6 O3 hT hf=> ?_
   refine tx4 hT.hA hT.blk hT.no hf hF ka o_ka kr o_kr ks o_ks kp o_kp ?_;clear hA hF kt c_kt o_kt ka o_ka kr o_kr ks o_ks kp o_kp c_ka c_kr c_ks c_kp hT hf;intro z_W6 hA hF kt c_kt o_kt ka c_ka o_ka kr c_kr o_kr ks c_ks o_ks kp c_kp o_kp
   go_wp2_with fail
   refine cg fun V6 hV_V6=> ?_
   refine nef5 hV_V6 hA hF ka kr ks kp kt ?_;clear hA hF ka kr ks kp kt c_ka c_kr c_ks c_kp c_kt;intro z_V6 hA hF ka c_ka kr c_kr ks c_ks kp c_kp kt c_kt
   clear hV_V6
   have hadlt:ad.block<w.heap.size:=by
    obtain ⟨A,c,hv,hc⟩:=HD.out
    obtain ⟨rfl, -,rfl⟩:=Value.slice.inj hv
    obtain ⟨ad',ha,hlt, -⟩:=hc hlen
    obtain rfl:=Option.some.inj ha
    exact hlt
   have hX: ¬twoX W2.heap.size (W2.heap.size+1) ad.block:=by unfold twoX;omega
   by_cases hm:(r.2:Int) % rate=0
   ·
    have m1:((r.2:Int) % rate==0)=true:=by rw [hm];rfl
    have hst:=Hst2.out
    rw [if_pos hm] at hst
    obtain ⟨r3,hr3',hst⟩:=Option.bind_eq_some_iff.1 hst
    obtain ⟨u,hu,hst⟩:=Option.map_eq_some_iff.1 hst
    obtain ⟨t3,ht3⟩: ∃t,nextA t2.2.1 st.p.spots r3=t:=⟨_,rfl⟩
    rw [ht3] at hu hst
    have Hr3:=Lib.hid hr3';have Hu:=Lib.hid hu;have Hst:=Lib.hid hst;have Ht3:=Lib.hid ht3;have Hm:=Lib.hid hm
    have e2:decide ((r.2:Int) % rate=0)=((r.2:Int) % rate==0):=rfl
    have Hr2':Hid (bInsert t1.2.2 st.p.marks (i:Int) ((r.2:Int) % rate==0)=some r2):=Lib.hid Hr2.out
    rw [m1] at Hr2'⊢
    clear hst hr3' hu ht3 hm e2
    refine wC (bInsert_calls (s:=t1.2.2) _ _ _ r2 Hr2'.out _ hA) fun W7 O4 hA_W7 hf_W7=> ?_
    refine wif5 hf_W7 hF ka o_ka kr o_kr ks o_ks kp o_kp kt o_kt ?_;clear hA hF ka o_ka kr o_kr ks o_ks kp o_kp kt o_kt c_ka c_kr c_ks c_kp c_kt hf_W7;intro z_W7 hF ka c_ka o_ka kr c_kr o_kr ks c_ks o_ks kp c_kp o_kp kt c_kt o_kt;have hA:=hA_W7;clear hA_W7
    go_wp2_with fail
    refine cg fun V7 hV_V7=> ?_
    refine nef5 hV_V7 hA hF ka kr ks kp kt ?_;clear hA hF ka kr ks kp kt c_ka c_kr c_ks c_kp c_kt;intro z_V7 hA hF ka c_ka kr c_kr ks c_ks kp c_kp kt c_kt
    clear hV_V7
    refine tC (next_t (W2.heap.size+1) w.heap.size t1.2.1 st.p.marks r2 t2 Ht2.out _ hA kt ka o_kt o_ka ne6) fun W8 O5 hT hf=> ?_
    refine tx4 hT.hA hT.blk hT.no hf hF ka o_ka kr o_kr ks o_ks kp o_kp ?_;clear hA hF kt c_kt o_kt ka o_ka kr o_kr ks o_ks kp o_kp c_ka c_kr c_ks c_kp hT hf;intro z_W8 hA hF kt c_kt o_kt ka c_ka o_ka kr c_kr o_kr ks c_ks o_ks kp c_kp o_kp
    go_wp2_with fail
    refine wg fun V8 hV_V8=> ?_
    refine nef5 hV_V8 hA hF ka kr ks kp kt ?_;clear hA hF ka kr ks kp kt c_ka c_kr c_ks c_kp c_kt;intro z_V8 hA hF ka c_ka kr c_kr ks c_ks kp c_kp kt c_kt
    clear hV_V8
    obtain ⟨c_d_lt,c_d, -⟩:(ad.add (r.1*2)).block<V8.heap.size∧V8.cell? (ad.add (r.1*2))=some (.int .i64 d.1)∧True:=by
     obtain ⟨A,c,hv,hc⟩:=hdoc.out.fr hF oD hX
     obtain ⟨rfl, -,rfl⟩:=Value.slice.inj hv
     obtain ⟨ad',ha,hlt,hc⟩:=hc hlen
     obtain rfl:=Option.some.inj ha
     obtain ⟨q1,q2, -⟩:=hc r.1 d Hd.out
     exact ⟨q1,q2,trivial⟩
    have c_d_no: ¬O5 (ad.add (r.1*2)).block:=by
     rw [block_of_add]
     exact hF.not_own (by have:=hF.size;omega) oD
    refine dr (fun v=>(v.cell? (ad.add (r.1*2))=some (.int .i64 d.1))∧Sm v V8 (w.heap.size)∧Sm v V8 (g1)∧Sm v V8 (g2)∧Sm v V8 (W2.heap.size)∧Sm v V8 (W2.heap.size+1)∧(V8.heap.size≤v.heap.size)∧True) ⟨c_d,fun _=>rfl,fun _=>rfl,fun _=>rfl,fun _=>rfl,fun _=>rfl,Nat.le_refl _,trivial⟩ fun V8d hV_V8d hHeld=> ?_
    have v_ka:=c_ka.1;have v_kr:=c_kr.1;have v_ks:=c_ks.1;have v_kp:=c_kp.1;have v_kt:=c_kt.1
    replace c_d:V8d.cell? (ad.add (r.1*2))=some (.int .i64 d.1):=by rw [hV_V8d];exact c_d
    replace c_d_lt:((ad.add (r.1*2))).block<V8d.heap.size:=by rw [hV_V8d];exact c_d_lt
    refine nef5 hV_V8d hA hF ka kr ks kp kt ?_;clear hA hF ka kr ks kp kt c_ka c_kr c_ks c_kp c_kt;intro z_V8d hA hF ka c_ka kr c_kr ks c_ks kp c_kp kt c_kt
    clear hV_V8d
    refine ta 0 hHeld ?_
    refine ta 1 hHeld ?_
    refine ta 2 hHeld ?_
    refine ta 3 hHeld ?_
    refine ta 4 hHeld ?_
    refine ta 5 hHeld ?_
    refine ta 6 hHeld ?_
    refine ta 7 hHeld ?_
    refine ta 8 hHeld ?_
    refine ta 9 hHeld ?_
    refine ta 10 hHeld ?_
    refine ta 11 hHeld ?_
    refine ta 12 hHeld ?_
    refine ta 13 hHeld ?_
    refine ta 14 hHeld ?_
    refine ta 15 hHeld ?_
    refine ta 16 hHeld ?_
    refine ta 17 hHeld ?_
    refine ta 18 hHeld ?_
    refine rd 19 rfl fun K hK=> ?_
    go_simp
    try simp only [IntWalk.i64_left]
    refine wC (lInsert_calls (s:=t2.2.2) _ _ (d.1,(r.2:Int)) r3 Hr3.out _ hA) fun W9 O6 hA_W9 hf_W9=> ?_
    have q_ka:=hf_W9.keep ka o_ka (fun h=>h)
    have q_kr:=hf_W9.keep kr o_kr (fun h=>h)
    have q_ks:=hf_W9.keep ks o_ks (fun h=>h)
    have q_kp:=hf_W9.keep kp o_kp (fun h=>h)
    have q_kt:=hf_W9.keep kt o_kt (fun h=>h)
    replace o_ka:=hf_W9.not_own (lt_of ka) o_ka
    clear ka c_ka;have ka:=q_ka;clear q_ka
    have c_ka:=f3 ka;have l_kaW9:=lt_of ka
    replace o_kr:=hf_W9.not_own (lt_of kr) o_kr
    clear kr c_kr;have kr:=q_kr;clear q_kr
    have c_kr:=f3 kr;have l_krW9:=lt_of kr
    replace o_ks:=hf_W9.not_own (lt_of ks) o_ks
    clear ks c_ks;have ks:=q_ks;clear q_ks
    have c_ks:=f3 ks;have l_ksW9:=lt_of ks
    replace o_kp:=hf_W9.not_own (lt_of kp) o_kp
    clear kp c_kp;have kp:=q_kp;clear q_kp
    have c_kp:=f3 kp;have l_kpW9:=lt_of kp
    replace o_kt:=hf_W9.not_own (lt_of kt) o_kt
    clear kt c_kt;have kt:=q_kt;clear q_kt
    have c_kt:=f3 kt;have l_ktW9:=lt_of kt
    replace c_d:=(cell_same (hf_W9.block _ c_d_lt c_d_no (fun h=>h))).trans c_d
    clear c_d_lt c_d_no
    replace hF:=hF.trans hf_W9.widen
    have z_W9:=hf_W9.size
    clear hA hf_W9;have hA:=hA_W9;clear hA_W9
    refine ho hK ⟨c_d,vv c_ka v_ka,vv c_kr v_kr,vv c_ks v_ks,vv c_kp v_kp,vv c_kt v_kt,by omega,trivial⟩ fun hHeld=> ?_
    clear hK K
    refine ta 20 hHeld ?_
    refine ta 21 hHeld ?_
    refine ta 22 hHeld ?_
    refine rd 23 rfl fun K hK=> ?_
    go_simp
    refine ho hK hHeld fun hHeld=> ?_
    clear hK K
    refine rd 24 rfl fun K hK=> ?_
    go_simp
    refine ho hK hHeld fun hHeld=> ?_
    clear hK K
    refine wd ?_
    go_wp2_with fail
    refine cg fun V9 hV_V9=> ?_
    refine nef5 hV_V9 hA hF ka kr ks kp kt ?_;clear hA hF ka kr ks kp kt c_ka c_kr c_ks c_kp c_kt;intro z_V9 hA hF ka c_ka kr c_kr ks c_ks kp c_kp kt c_kt
    clear hV_V9
    refine tC (next_t (W2.heap.size+1) w.heap.size t2.2.1 st.p.spots r3 t3 Ht3.out _ hA kt ka o_kt o_ka ne6) fun W10 O7 hT hf=> ?_
    refine tx4 hT.hA hT.blk hT.no hf hF ka o_ka kr o_kr ks o_ks kp o_kp ?_;clear hA hF kt c_kt o_kt ka o_ka kr o_kr ks o_ks kp o_kp c_ka c_kr c_ks c_kp hT hf;intro z_W10 hA hF kt c_kt o_kt ka c_ka o_ka kr c_kr o_kr ks c_ks o_ks kp c_kp o_kp
    go_wp2_with fail
    refine cg fun V10 hV_V10=> ?_
    refine nef5 hV_V10 hA hF ka kr ks kp kt ?_;clear hA hF ka kr ks kp kt c_ka c_kr c_ks c_kp c_kt;intro z_V10 hA hF ka c_ka kr c_kr ks c_ks kp c_kp kt c_kt
    clear hV_V10
    refine wC (work_calls (s:=t3.2.2) 1073741824 u Hu.out _ hA) fun W11 O8 hA_W11 hf_W11=> ?_
    refine wif5 hf_W11 hF ka o_ka kr o_kr ks o_ks kp o_kp kt o_kt ?_;clear hA hF ka o_ka kr o_kr ks o_ks kp o_kp kt o_kt c_ka c_kr c_ks c_kp c_kt hf_W11;intro z_W11 hF ka c_ka o_ka kr c_kr o_kr ks c_ks o_ks kp c_kp o_kp kt c_kt o_kt;have hA:=hA_W11;clear hA_W11
    obtain rfl:=Hst.out
    have HF2:=Lib.hid (HF.out.trans_own hF hY)
    have hdoc2:=Lib.hid (hdoc.out.fr hF oD hX)
    have oD2:=hF.not_own (by have:=HF.out.size;omega) oD
    have HA2:=Lib.hid hA
    clear hF hdoc oD hA
    go_wp2_with fail
    go_roundg k
    case measure=>omega
    case rel=>exact ⟨i+1,_,O8,rfl,by first|rfl|(rw [E3.out];rfl),by omega,HA2.out,HF2,kp,kt,ka,kr,ks,o_kp,o_kt,o_ka,o_kr,o_ks,oD2,hdoc2,Lib.hid (by exact Hb2.out)⟩
   ·
    have m1:((r.2:Int) % rate==0)=false:=by rw [beq_eq_false_iff_ne];exact hm
    have hst:=Hst2.out
    rw [if_neg hm] at hst
    obtain ⟨u,hu,hst⟩:=Option.map_eq_some_iff.1 hst
    have Hu:=Lib.hid hu;have Hst:=Lib.hid hst;have Hm:=Lib.hid hm
    have Hr2':Hid (bInsert t1.2.2 st.p.marks (i:Int) ((r.2:Int) % rate==0)=some r2):=Lib.hid Hr2.out
    rw [m1] at Hr2'⊢
    clear hst hu hm
    refine wC (bInsert_calls (s:=t1.2.2) _ _ _ r2 Hr2'.out _ hA) fun W7 O4 hA_W7 hf_W7=> ?_
    refine wif5 hf_W7 hF ka o_ka kr o_kr ks o_ks kp o_kp kt o_kt ?_;clear hA hF ka o_ka kr o_kr ks o_ks kp o_kp kt o_kt c_ka c_kr c_ks c_kp c_kt hf_W7;intro z_W7 hF ka c_ka o_ka kr c_kr o_kr ks c_ks o_ks kp c_kp o_kp kt c_kt o_kt;have hA:=hA_W7;clear hA_W7
    go_wp2_with fail
    refine cg fun V7 hV_V7=> ?_
    refine nef5 hV_V7 hA hF ka kr ks kp kt ?_;clear hA hF ka kr ks kp kt c_ka c_kr c_ks c_kp c_kt;intro z_V7 hA hF ka c_ka kr c_kr ks c_ks kp c_kp kt c_kt
    clear hV_V7
    refine tC (next_t (W2.heap.size+1) w.heap.size t1.2.1 st.p.marks r2 t2 Ht2.out _ hA kt ka o_kt o_ka ne6) fun W8 O5 hT hf=> ?_
    refine tx4 hT.hA hT.blk hT.no hf hF ka o_ka kr o_kr ks o_ks kp o_kp ?_;clear hA hF kt c_kt o_kt ka o_ka kr o_kr ks o_ks kp o_kp c_ka c_kr c_ks c_kp hT hf;intro z_W8 hA hF kt c_kt o_kt ka c_ka o_ka kr c_kr o_kr ks c_ks o_ks kp c_kp o_kp
    go_wp2_with fail
    refine cg fun V8 hV_V8=> ?_
    refine nef5 hV_V8 hA hF ka kr ks kp kt ?_;clear hA hF ka kr ks kp kt c_ka c_kr c_ks c_kp c_kt;intro z_V8 hA hF ka c_ka kr c_kr ks c_ks kp c_kp kt c_kt
    clear hV_V8
    refine wC (work_calls (s:=t2.2.2) 1073741824 u Hu.out _ hA) fun W11 O8 hA_W11 hf_W11=> ?_
    refine wif5 hf_W11 hF ka o_ka kr o_kr ks o_ks kp o_kp kt o_kt ?_;clear hA hF ka o_ka kr o_kr ks o_ks kp o_kp kt o_kt c_ka c_kr c_ks c_kp c_kt hf_W11;intro z_W11 hF ka c_ka o_ka kr c_kr o_kr ks c_ks o_ks kp c_kp o_kp kt c_kt o_kt;have hA:=hA_W11;clear hA_W11
    obtain rfl:=Hst.out
    have HF2:=Lib.hid (HF.out.trans_own hF hY)
    have hdoc2:=Lib.hid (hdoc.out.fr hF oD hX)
    have oD2:=hF.not_own (by have:=HF.out.size;omega) oD
    have HA2:=Lib.hid hA
    clear hF hdoc oD hA
    go_wp2_with fail
    go_roundg k
    case measure=>omega
    case rel=>exact ⟨i+1,(⟨u.2,t2.2.1,⟨t1.1,t2.1,st.p.spots,st.p.table⟩,st.n⟩:Bst),O8,rfl,by first|rfl|(rw [E3.out];rfl),by omega,HA2.out,HF2,kp,kt,ka,kr,ks,o_kp,o_kt,o_ka,o_kr,o_ks,oD2,hdoc2,Lib.hid (by exact Hb2.out)⟩
  ·
   obtain rfl:i=R.length:=by omega
   have hb:=Hb.out
   rw [List.drop_of_length_le (by omega)] at hb
   unfold bRows at hb
   obtain rfl:=Option.some.inj hb
   have n1:decide ((R.length:Int)<(R.length:Int))=false:=by simp
   clear hb Hb hlt hk
   go_wp2_with fail
   go_loopg [126] ds.length (fun k p1 wr=> ∃(i:Nat) (st:Bst) (O':Nat→Prop),p1= .int .i64 (i:Int)∧i+k=ds.length∧AP wr (.pointer q) st.s O'∧Hid (Fr noX O O' w wr)
    ∧wr.heap[W2.heap.size]? =some (.cells #[.int .i64 st.p.wave, .int .i64 st.p.marks, .int .i64 st.p.spots, .int .i64 st.p.table] 63 (0,0))∧wr.heap[W2.heap.size+1]? =some (.cells #[.bool st.ok] 4 (0,0))∧wr.heap[w.heap.size]? =some (.cells #[.pointer q] 25 (0,0))
    ∧ ¬O' (W2.heap.size)∧ ¬O' (W2.heap.size+1)∧ ¬O' w.heap.size∧ ¬O' ad.block∧Hid (Rd2 wr (.slice (some ad) ds.length cap) ds)∧Hid (bTable ((docsM ds).drop i) st=some B2))
   case atStart=>exact ⟨0,_,O1,rfl,by omega,hA,HF,kp,kt,ka,o_kp,o_kt,o_ka,oD,hdoc,H2⟩
   case round=>
    clear hA HF kp kt ka kr ks o_kp o_kt o_ka o_kr o_ks oD hdoc
    obtain ⟨i,st,O1,rfl,hk,hA,HF,kp,kt,ka,o_kp,o_kt,o_ka,oD,hdoc,Hb⟩:=hrel
    have hadlt:ad.block<w.heap.size:=by
     obtain ⟨A,c,hv,hc⟩:=HD.out
     obtain ⟨rfl, -,rfl⟩:=Value.slice.inj hv
     obtain ⟨ad',ha,hlt, -⟩:=hc hlen
     obtain rfl:=Option.some.inj ha
     exact hlt
    have hX: ¬twoX W2.heap.size (W2.heap.size+1) ad.block:=by unfold twoX;omega
    by_cases hlt:i<ds.length
    ·
     obtain ⟨k,rfl⟩: ∃k,gk=k+1:=⟨gk - 1,by omega⟩
     obtain ⟨d,hd⟩:=at_some hlt
     have hx:(docsM ds)[i]? =some (d.1,(d.2.length:Int)):=by unfold docsM;rw [List.getElem?_map,hd];rfl
     have hb:=Hb.out
     rw [drop_at hx] at hb
     unfold bTable at hb
     obtain ⟨a,ha,hb⟩:=Option.bind_eq_some_iff.1 hb
     have hla:a.length≤50000:=by
      by_cases h:a.length≤50000
      ·
       exact h
      ·
       rw [if_neg h] at hb;cases hb
     rw [if_pos hla] at hb
     obtain ⟨r,hr,hb⟩:=Option.bind_eq_some_iff.1 hb
     obtain ⟨t,ht⟩: ∃t,nextA st.ok st.p.table r=t:=⟨_,rfl⟩
     rw [ht] at hb
     dsimp only at hr
     have Ha:=Lib.hid ha;have Hr:=Lib.hid hr;have Hb2:=Lib.hid hb;have Ht:=Lib.hid ht
     have m1:decide ((i:Int)<(ds.length:Int))=true:=by simpa using hlt
     have m2:(i:Int)<(ds.length:Int):=by omega
     have E3:=Lib.hid (step_wrap i 500 (by omega) (by omega))
     obtain ⟨cd1,cd2⟩:wr.cell? (ad.add (i*2))=some (.int .i64 d.1)∧wr.cell? ⟨(ad.add (i*2)).block,(ad.add (i*2)).off+1,none⟩=some (.string ⟨d.2.toArray⟩):=by
      obtain ⟨A,c,hv,hc⟩:=hdoc.out
      obtain ⟨rfl, -,rfl⟩:=Value.slice.inj hv
      obtain ⟨ad',ha,hlt,hc⟩:=hc hlen
      obtain rfl:=Option.some.inj ha
      obtain ⟨-,q1,q2⟩:=hc i d hd
      exact ⟨q1,q2⟩
     clear hb ha hr ht hd hx hlt Hb
     have hF:=Fr.refl ((twoX W2.heap.size (W2.heap.size+1))) O1 wr
     have c_ka:=f3 ka;have l_kawr:=lt_of ka
     have c_kp:=f3 kp;have l_kpwr:=lt_of kp
     have c_kt:=f3 kt;have l_ktwr:=lt_of kt
     go_wp2_with fail
     refine cg fun V4 hV_V4=> ?_
     refine nef3 hV_V4 hA hF ka kp kt ?_;clear hA hF ka kp kt c_ka c_kp c_kt;intro z_V4 hA hF ka c_ka kp c_kp kt c_kt
     clear hV_V4
     refine wC (tAdd_calls _ _ _ a Ha.out hla r Hr.out _ hA) fun W5 O2 hA_W5 hf_W5=> ?_
     refine wif3 hf_W5 hF ka o_ka kp o_kp kt o_kt ?_;clear hA hF ka o_ka kp o_kp kt o_kt c_ka c_kp c_kt hf_W5;intro z_W5 hF ka c_ka o_ka kp c_kp o_kp kt c_kt o_kt;have hA:=hA_W5;clear hA_W5
     go_wp2_with fail
     refine cg fun V5 hV_V5=> ?_
     refine nef3 hV_V5 hA hF ka kp kt ?_;clear hA hF ka kp kt c_ka c_kp c_kt;intro z_V5 hA hF ka c_ka kp c_kp kt c_kt
     clear hV_V5
     refine tC (next_t (W2.heap.size+1) w.heap.size st.ok st.p.table r t Ht.out _ hA kt ka o_kt o_ka ne6) fun W6 O3 hT hf=> ?_
     refine tx2 hT.hA hT.blk hT.no hf hF ka o_ka kp o_kp ?_;clear hA hF kt c_kt o_kt ka o_ka kp o_kp c_ka c_kp hT hf;intro z_W6 hA hF kt c_kt o_kt ka c_ka o_ka kp c_kp o_kp
     clear cd1 cd2
     go_wp2_with fail
     refine handed_gen fun V6 hV_V6=> ?_
     refine nef3 hV_V6 hA hF ka kp kt ?_;clear hA hF ka kp kt c_ka c_kp c_kt;intro z_V6 hA hF ka c_ka kp c_kp kt c_kt
     clear hV_V6
     have HF2:=Lib.hid (HF.out.trans_own hF hY)
     have hdoc2:=Lib.hid (hdoc.out.fr hF oD hX)
     have oD2:=hF.not_own (by have:=HF.out.size;omega) oD
     go_roundg k
     case measure=>omega
     case rel=>exact ⟨i+1,(⟨t.2.2,t.2.1,⟨st.p.wave,st.p.marks,st.p.spots,t.1⟩,st.n⟩:Bst),O3,by first|rfl|(rw [E3.out];rfl),by omega,hA,HF2,kp,kt,ka,o_kp,o_kt,o_ka,oD2,hdoc2,Lib.hid (by exact Hb2.out)⟩
    ·
     obtain rfl:i=ds.length:=by omega
     have hDlen:(docsM ds).length=ds.length:=by unfold docsM;rw [List.length_map]
     have hb:=Hb.out
     rw [List.drop_of_length_le (by omega)] at hb
     unfold bTable at hb
     obtain rfl:=Option.some.inj hb
     have m1:decide ((ds.length:Int)<(ds.length:Int))=false:=by simp
     have h3:=H3.out
     unfold bEnd at h3
     rw [ho2,if_pos rfl] at h3
     obtain ⟨t4,ht4⟩: ∃t,nextA true 0 (vMake st.s st.p)=t:=⟨_,rfl⟩
     rw [ht4] at h3
     dsimp only at h3
     obtain ⟨u,hu,h3⟩:=Option.map_eq_some_iff.1 h3
     rw [ho2] at kt
     have Hu:=Lib.hid hu;have H3':=Lib.hid h3;have Ht4:=Lib.hid ht4
     have hok4:t4.2.1=true:=congrArg (fun x=>x.2.1) h3
     clear hb Hb hlt hk h3 hu ht4
     have hF:=Fr.refl ((twoX W2.heap.size (W2.heap.size+1))) O1 wr
     have c_ka:=f3 ka;have l_kawr:=lt_of ka
     have c_kp:=f3 kp;have l_kpwr:=lt_of kp
     have c_kt:=f3 kt;have l_ktwr:=lt_of kt
     go_wp2_with fail
     refine cg fun V4 hV_V4=> ?_
     refine nef3 hV_V4 hA hF ka kp kt ?_;clear hA hF ka kp kt c_ka c_kp c_kt;intro z_V4 hA hF ka c_ka kp c_kp kt c_kt
     clear hV_V4
     refine wC (vMake_calls st.p _ hA) fun W5 O2 hA_W5 hf_W5=> ?_
     refine wif3 hf_W5 hF ka o_ka kp o_kp kt o_kt ?_;clear hA hF ka o_ka kp o_kp kt o_kt c_ka c_kp c_kt hf_W5;intro z_W5 hF ka c_ka o_ka kp c_kp o_kp kt c_kt o_kt;have hA:=hA_W5;clear hA_W5
     go_wp2_with fail
     refine cg fun V5 hV_V5=> ?_
     refine nef3 hV_V5 hA hF ka kp kt ?_;clear hA hF ka kp kt c_ka c_kp c_kt;intro z_V5 hA hF ka c_ka kp c_kp kt c_kt
     clear hV_V5
     refine tC (next_t (W2.heap.size+1) w.heap.size true 0 (vMake st.s st.p) t4 Ht4.out _ hA kt ka o_kt o_ka ne6) fun W6 O3 hT hf=> ?_
     refine tx2 hT.hA hT.blk hT.no hf hF ka o_ka kp o_kp ?_;clear hA hF kt c_kt o_kt ka o_ka kp o_kp c_ka c_kp hT hf;intro z_W6 hA hF kt c_kt o_kt ka c_ka o_ka kp c_kp o_kp
     rw [hok4] at kt
     go_wp2_with fail
     refine wg fun V6 hV_V6=> ?_
     refine nnf3 hV_V6 hA hF ka kp kt ?_;clear hA hF ka kp kt c_ka c_kp c_kt;intro hn_V6 z_V6 hA hF ka c_ka kp c_kp kt c_kt
     obtain ⟨kl,c_kl,o_kl,l_klV6⟩:=nN hn_V6 hV_V6 (W6.heap.size)
     clear hV_V6 hn_V6
     have HF6:=Lib.hid (HF.out.trans_own hF hY)
     have HA6:=Lib.hid hA
     have ka2:=ka;have kt2:=kt;have o_ka2:=o_ka;have o_kt2:=o_kt
     clear hA hF HF kp c_kp o_kp ka c_ka kt c_kt o_ka o_kt c_kl
     go_loopw [171] (fun y w3=> ∃i:Nat,i≤4∧y= .int .i64 i∧ ∃O',AP w3 (.pointer q) ([st.p.wave,st.p.marks,st.p.spots,st.p.table].take i|>.foldl dropP t4.2.2) O'∧Fr noX O O' w w3∧w3.heap[W6.heap.size]? =some (.cells #[.int .i64 st.p.wave, .int .i64 st.p.marks, .int .i64 st.p.spots, .int .i64 st.p.table] 3 (0,0))∧w3.heap[w.heap.size]? =some (.cells #[.pointer q] 25 (0,0))∧w3.heap[W2.heap.size+1]? =some (.cells #[.bool true] 4 (0,0))∧ ¬O' W6.heap.size∧ ¬O' w.heap.size∧ ¬O' (W2.heap.size+1)) (fun y _=>4 - (intOf y).toNat)
     case atStart=>exact ⟨0,by omega,rfl,_,HA6.out,HF6.out,kl,ka2,kt2,o_kl,o_ka2,o_kt2⟩
     case round=>
      clear HA6 HF6 kl ka2 kt2 o_kl o_ka2 o_kt2
      obtain ⟨i,hi,rfl,O',hA',hF',kl,ka2,kt2,o_kl,o_ka2,o_kt2⟩:=hrel
      have c_kl:=cells_of kl
      rcases (show i=0∨i=1∨i=2∨i=3∨i=4 by omega) with rfl|rfl|rfl|rfl|rfl
      ·
       have HA:=Lib.hid hA';have HF5:=Lib.hid hF';clear hA' hF'
       by_cases hz:st.p.wave=0
       ·
        have z1:(st.p.wave !=0)=false:=by simp [hz]
        have hd:Hid ((dropP t4.2.2 st.p.wave)=t4.2.2):=Lib.hid (by show dropP _ _=_;unfold dropP;rw [if_pos hz])
        clear hz
        go_wp2_with fail
        go_roundw
        case rel=>exact ⟨1,by omega,rfl,O',by show AP wr (.pointer q) (dropP t4.2.2 st.p.wave) O';rw [hd.out];exact HA.out,HF5.out,kl,ka2,kt2,o_kl,o_ka2,o_kt2⟩
        case measure=>simp [intOf]
       ·
        have z1:(st.p.wave !=0)=true:=by simp [hz]
        have hd:Hid ((dropP t4.2.2 st.p.wave)=(t4.2.2).drop st.p.wave):=Lib.hid (by show dropP _ _=_;unfold dropP;rw [if_neg hz])
        clear hz
        have c_ka2:=cells_of ka2
        go_wp2_with fail
        refine (drop_calls _ _ HA.out).mono ?_
        rintro e1 w1 ⟨rfl,O3,hA1,hf1⟩
        go_wp2_with fail
        go_roundw
        case rel=>exact ⟨1,by omega,rfl,O3,by show AP w1 (.pointer q) (dropP t4.2.2 st.p.wave) O3;rw [hd.out];exact hA1,HF5.out.trans hf1.widen,hf1.keep kl o_kl (fun h=>h),hf1.keep ka2 o_ka2 (fun h=>h),hf1.keep kt2 o_kt2 (fun h=>h),hf1.not_own (lt_of kl) o_kl,hf1.not_own (lt_of ka2) o_ka2,hf1.not_own (lt_of kt2) o_kt2⟩
        case measure=>simp [intOf]
      ·
       have HA:=Lib.hid hA';have HF5:=Lib.hid hF';clear hA' hF'
       by_cases hz:st.p.marks=0
       ·
        have z1:(st.p.marks !=0)=false:=by simp [hz]
        have hd:Hid ((dropP (dropP t4.2.2 st.p.wave) st.p.marks)=(dropP t4.2.2 st.p.wave)):=Lib.hid (by show dropP _ _=_;unfold dropP;rw [if_pos hz])
        clear hz
        go_wp2_with fail
        go_roundw
        case rel=>exact ⟨2,by omega,rfl,O',by show AP wr (.pointer q) (dropP (dropP t4.2.2 st.p.wave) st.p.marks) O';rw [hd.out];exact HA.out,HF5.out,kl,ka2,kt2,o_kl,o_ka2,o_kt2⟩
        case measure=>simp [intOf]
       ·
        have z1:(st.p.marks !=0)=true:=by simp [hz]
        have hd:Hid ((dropP (dropP t4.2.2 st.p.wave) st.p.marks)=((dropP t4.2.2 st.p.wave)).drop st.p.marks):=Lib.hid (by show dropP _ _=_;unfold dropP;rw [if_neg hz])
        clear hz
        have c_ka2:=cells_of ka2
        go_wp2_with fail
        refine (drop_calls _ _ HA.out).mono ?_
        rintro e1 w1 ⟨rfl,O3,hA1,hf1⟩
        go_wp2_with fail
        go_roundw
        case rel=>exact ⟨2,by omega,rfl,O3,by show AP w1 (.pointer q) (dropP (dropP t4.2.2 st.p.wave) st.p.marks) O3;rw [hd.out];exact hA1,HF5.out.trans hf1.widen,hf1.keep kl o_kl (fun h=>h),hf1.keep ka2 o_ka2 (fun h=>h),hf1.keep kt2 o_kt2 (fun h=>h),hf1.not_own (lt_of kl) o_kl,hf1.not_own (lt_of ka2) o_ka2,hf1.not_own (lt_of kt2) o_kt2⟩
        case measure=>simp [intOf]
      ·
       have HA:=Lib.hid hA';have HF5:=Lib.hid hF';clear hA' hF'
       by_cases hz:st.p.spots=0
       ·
        have z1:(st.p.spots !=0)=false:=by simp [hz]
        have hd:Hid ((dropP (dropP (dropP t4.2.2 st.p.wave) st.p.marks) st.p.spots)=(dropP (dropP t4.2.2 st.p.wave) st.p.marks)):=Lib.hid (by show dropP _ _=_;unfold dropP;rw [if_pos hz])
        clear hz
        go_wp2_with fail
        go_roundw
        case rel=>exact ⟨3,by omega,rfl,O',by show AP wr (.pointer q) (dropP (dropP (dropP t4.2.2 st.p.wave) st.p.marks) st.p.spots) O';rw [hd.out];exact HA.out,HF5.out,kl,ka2,kt2,o_kl,o_ka2,o_kt2⟩
        case measure=>simp [intOf]
       ·
        have z1:(st.p.spots !=0)=true:=by simp [hz]
        have hd:Hid ((dropP (dropP (dropP t4.2.2 st.p.wave) st.p.marks) st.p.spots)=((dropP (dropP t4.2.2 st.p.wave) st.p.marks)).drop st.p.spots):=Lib.hid (by show dropP _ _=_;unfold dropP;rw [if_neg hz])
        clear hz
        have c_ka2:=cells_of ka2
        go_wp2_with fail
        refine (drop_calls _ _ HA.out).mono ?_
        rintro e1 w1 ⟨rfl,O3,hA1,hf1⟩
        go_wp2_with fail
        go_roundw
        case rel=>exact ⟨3,by omega,rfl,O3,by show AP w1 (.pointer q) (dropP (dropP (dropP t4.2.2 st.p.wave) st.p.marks) st.p.spots) O3;rw [hd.out];exact hA1,HF5.out.trans hf1.widen,hf1.keep kl o_kl (fun h=>h),hf1.keep ka2 o_ka2 (fun h=>h),hf1.keep kt2 o_kt2 (fun h=>h),hf1.not_own (lt_of kl) o_kl,hf1.not_own (lt_of ka2) o_ka2,hf1.not_own (lt_of kt2) o_kt2⟩
        case measure=>simp [intOf]
      ·
       have HA:=Lib.hid hA';have HF5:=Lib.hid hF';clear hA' hF'
       by_cases hz:st.p.table=0
       ·
        have z1:(st.p.table !=0)=false:=by simp [hz]
        have hd:Hid ((dropP (dropP (dropP (dropP t4.2.2 st.p.wave) st.p.marks) st.p.spots) st.p.table)=(dropP (dropP (dropP t4.2.2 st.p.wave) st.p.marks) st.p.spots)):=Lib.hid (by show dropP _ _=_;unfold dropP;rw [if_pos hz])
        clear hz
        go_wp2_with fail
        go_roundw
        case rel=>exact ⟨4,by omega,rfl,O',by show AP wr (.pointer q) (dropP (dropP (dropP (dropP t4.2.2 st.p.wave) st.p.marks) st.p.spots) st.p.table) O';rw [hd.out];exact HA.out,HF5.out,kl,ka2,kt2,o_kl,o_ka2,o_kt2⟩
        case measure=>simp [intOf]
       ·
        have z1:(st.p.table !=0)=true:=by simp [hz]
        have hd:Hid ((dropP (dropP (dropP (dropP t4.2.2 st.p.wave) st.p.marks) st.p.spots) st.p.table)=((dropP (dropP (dropP t4.2.2 st.p.wave) st.p.marks) st.p.spots)).drop st.p.table):=Lib.hid (by show dropP _ _=_;unfold dropP;rw [if_neg hz])
        clear hz
        have c_ka2:=cells_of ka2
        go_wp2_with fail
        refine (drop_calls _ _ HA.out).mono ?_
        rintro e1 w1 ⟨rfl,O3,hA1,hf1⟩
        go_wp2_with fail
        go_roundw
        case rel=>exact ⟨4,by omega,rfl,O3,by show AP w1 (.pointer q) (dropP (dropP (dropP (dropP t4.2.2 st.p.wave) st.p.marks) st.p.spots) st.p.table) O3;rw [hd.out];exact hA1,HF5.out.trans hf1.widen,hf1.keep kl o_kl (fun h=>h),hf1.keep ka2 o_ka2 (fun h=>h),hf1.keep kt2 o_kt2 (fun h=>h),hf1.not_own (lt_of kl) o_kl,hf1.not_own (lt_of ka2) o_ka2,hf1.not_own (lt_of kt2) o_kt2⟩
        case measure=>simp [intOf]
      ·
       have HA:=Lib.hid hA';have HF5:=Lib.hid hF';clear hA' hF' c_kl
       have hA7:AP wr (.pointer q) (dropP (dropP (dropP (dropP t4.2.2 st.p.wave) st.p.marks) st.p.spots) st.p.table) O':=HA.out
       have HA7:=Lib.hid hA7;clear hA7 HA
       have c_ka2:=cells_of ka2
       have hlast:root=t4.1∧s'=u.2:=by
        have h3:=H3'.out
        rw [hok4] at h3
        simp only [Bool.true_eq_false,false_and,if_false,Prod.mk.injEq] at h3
        exact ⟨h3.1.symm,h3.2.2.symm⟩
       obtain ⟨rfl,rfl⟩:=hlast
       go_wp2_with fail
       refine (work_calls 1073741824 u Hu.out _ HA7.out).mono ?_
       rintro e8 W8 ⟨rfl,O8,hA8,hf8⟩
       have kt8:=hf8.keep kt2 o_kt2 (fun h=>h)
       have c_kt8:=cells_of kt8
       have HA8:=Lib.hid hA8
       have HF8:=Lib.hid (HF5.out.trans hf8)
       clear hA8 hf8
       have hA:=HA8.out
       clear c_kt8 c_ka2
       have hF:=Fr.refl (noX) O8 W8
       have c_kt8:=f3 kt8;have l_kt8W8:=lt_of kt8
       go_wp2_with fail
       refine wg fun V9 hV_V9=> ?_
       refine nef1 hV_V9 hA hF kt8 ?_;clear hA hF kt8 c_kt8;intro z_V9 hA hF kt8 c_kt8
       clear hV_V9
       refine dr (fun v=>Sm v V9 (W2.heap.size+1)∧(V9.heap.size≤v.heap.size)∧AP v (.pointer q) u.2 O8) ⟨fun _=>rfl,Nat.le_refl _,hA.drew⟩ fun V9d hV_V9d hHeld=> ?_
       have v_kt8:=c_kt8.1
       refine nef1 hV_V9d hA hF kt8 ?_;clear hA hF kt8 c_kt8;intro z_V9d hA hF kt8 c_kt8
       clear hV_V9d
       refine ta 0 hHeld ?_
       refine ta 1 hHeld ?_
       refine rd 2 rfl fun K hK=> ?_
       go_simp
       refine ho hK hHeld fun hHeld=> ?_
       clear hK K
       refine rd 3 rfl fun K hK=> ?_
       go_simp
       refine ho hK hHeld fun hHeld=> ?_
       clear hK K
       refine wd ?_
       have HFF:=Lib.hid (HF8.out.trans hF)
       have HAA:=Lib.hid hA
       clear hF hA
       go_wp2_with fail
       go_ret2
       exact ⟨rfl,O8,HAA.out,HFF.out⟩
end
section
open Go.RowKit
attribute [local go_sem ↓] Go.wp_at_zero Go.wp_at_succ
attribute [local go_sem] str_len
structure Told (s:Ar) (root:Int) (ds:Docs):Prop where
  text: ∀id,pText s root id=some (match placeD ds id with|none=>([],false)|some k=>((ds.getD k (0,[])).2,true))
  all:lAll s (vOf s root).table=some (docsM ds)
  len:lLen s (vOf s root).table≤50000
  rows:vRows s root=tot ds+ds.length
  docs:vDocs s root=ds.length
theorem VR.told {s:Ar} {H:List Int} (hI:Inv s H) {h:Int} {ds:Docs} {rate:Int} (hv:VR s h ds rate) (hR:Right ds):Told s h ds:=by
  have hl:=hR.len
  refine ⟨hv.text hI hR,hv.all hI (by omega),?_,by rw [hv.rows hI (by omega),rows_tot hR];omega,hv.docs hI (by omega)⟩
  rw [(hv.parts hI (by omega)).2.2.2.1.len hI];unfold docsM;simp;omega
theorem placeD_at {ds:Docs} (h:Right ds) {j:Nat} {d:Int×List UInt8} (hd:ds[j]? =some d):placeD ds d.1=some j:=by
  obtain ⟨hj,rfl⟩:=List.getElem?_eq_some_iff.1 hd
  refine List.findIdx?_eq_some_iff_getElem.2 ⟨hj,by simp,fun i hi=> ?_⟩
  have:=List.pairwise_iff_getElem.1 h.nodup i j (by simp;omega) (by simp;omega) hi
  simpa using this
theorem Told.at {s:Ar} {root:Int} {ds:Docs} (t:Told s root ds) (h:Right ds) {j:Nat} {d:Int×List UInt8} (hd:ds[j]? =some d):pText s root d.1=some (d.2,true):=by
  rw [t.text,placeD_at h hd]
  simp [List.getD,hd]
variable {ap : Value} {O : Nat → Prop}
theorem bldnil_calls (q : Option Addr) (rate : Int) (A : Option Addr) (n cap : Nat) (hn : ((n : Int) == 0) = true) (w : World) :
    Calls Tryz.prog 17 #[.pointer q, .int .i64 rate, .slice A n cap] w fun e w'=>e= .returned (.tuple #[.int .i64 0, .bool true])∧Below w.heap.size w w':=by
  go_enter Tryz.func17,Tryz.ntmps17
  go_wp2_with fail
  go_ret2
  exact ⟨rfl,(Below.refl w.heap.size w).alloc (Nat.le_refl _) _⟩
end
section
open Go.RowKit Go.ChangeShapes Go.WideShapes Go.Deep
section
variable {H : Type} {enc : TypeId × Value → H} {P : Program} {w : World} {base : Nat} {spare : Nat → Bool} {held : Bool}
theorem open_slice_fields {t e : TypeId} {fs : Array Field} {fuel : Nat} {cs : List Value} {x : DataW H × List MemPlace} (ht : P.underlying t = some (.slice e)) (he : P.underlying e = some (.struct fs))
    (hone:oneCellFields P fs=true) (hC:P.cellsOf e=fs.size) (h:DataW.trod enc P w base spare held fuel t cs=some x):
    (cs=[.slice none 0 0]∧x=(.nil,[]))∨
    ∃(a:Addr) (len cap m:Nat) (D:Nat→DataW H) (Pl:Nat→List MemPlace),cs=[.slice (some a) len cap]∧base≤a.block∧len≤cap∧cap≤maxLen∧m=(if spare a.block then cap else len)∧
      x=(.slice ((List.range len).map D) ((List.range (m - len)).map fun j=>D (len+j)),MemPlace.row a (m*fs.size)++(List.range m).flatMap Pl)∧
      ∀i,i<m→ ∃(ys:List (DataW H×List MemPlace)) (n:Nat),D i= .agg (ys.map (·.1))∧Pl i=ys.flatMap (·.2)∧ys.length=fs.size∧
        ∀(j:Nat) (f:Field),fs[j]? =some f→ ∃(v:Value) (y:DataW H×List MemPlace),w.cell? (a.add (i*fs.size+j))=some v∧ys[j]? =some y∧DataW.trod enc P w base spare held n f.type [v]=some y:=by
  rcases open_slice ht h with h0|⟨a,len,cap,m,n,D,Pl,hcs,hb,hl,hm,hmm,hx,hi⟩
  · exact .inl h0
  · refine .inr ⟨a,len,cap,m,D,Pl,hcs,hb,hl,hm,hmm,by rw [hC] at hx;exact hx,fun i him=> ?_⟩
    obtain ⟨cs',hc,ht'⟩:=hi i him
    rw [hC] at hc
    obtain ⟨ys,n',hn',hy,hlen,hyl,hf⟩:=DataW.trod_struct he ht'
    obtain ⟨_,hcl,hat⟩:=World.cells?_some hc
    simp only [Prod.mk.injEq] at hy
    refine ⟨ys,n',hy.1,hy.2,hyl,fun j f hj=> ?_⟩
    obtain ⟨ho,hk⟩:=hone_of hone j f hj
    have hjl:j<fs.size:=(Array.getElem?_eq_some_iff.1 hj).1
    have hcell:=hat j hjl
    have hv:cs'[j]? =some (cs'[j]'(by omega)):=List.getElem?_eq_getElem (by omega)
    have h1:=hf j f hj
    rw [ho,hk] at h1
    have hone':(cs'.drop j).take 1=[cs'[j]'(by omega)]:=by
      rw [List.drop_eq_getElem_cons (by omega)]
      rfl
    rw [hone'] at h1
    have hys:ys[j]? =some (ys[j]'(by omega)):=List.getElem?_eq_getElem (by omega)
    refine ⟨_,_,?_,hys,h1.trans hys⟩
    rw [←Go.Deep.add_add,hcell,hv]
end
def IdOk (ds:List (Int×List UInt8)):Prop:= ∀d∈ds,(Lit.int .i64 d.1).wf=true
theorem str_of (s:ByteArray):Value.string s=strOf s.data.toList:=by unfold strOf;cases s;rfl
theorem add_one (a:Addr) (n:Nat):(⟨(a.add n).block,(a.add n).off+1,none⟩:Addr)=a.add (n+1):=by
  unfold Addr.add
  rw [if_neg (by omega: ¬n+1=0)]
  split
  · rename_i h;subst h;rfl
  · rfl
theorem read_docs {H : Type} {enc : TypeId × Value → H} {P : Program} {w : World} {held : Bool} {t e : TypeId} {f0 f1 : Field} {A : Option Addr} {len cap : Nat} {d : DataW H} {p : List MemPlace}
    (ht:P.underlying t=some (.slice e)) (he:P.underlying e=some (.struct #[f0,f1])) (hone:oneCellFields P #[f0,f1]=true) (hC:P.cellsOf e=2) (h0:P.underlying f0.type=some (.int .i64)) (h1:P.underlying f1.type=some .string)
    (h:DataW.Trod enc P w 0 (fun _=>true) held t (.slice A len cap) d p): ∃ds:List (Int×List UInt8),ds.length=len∧ds.length≤maxLen∧Rd2 w (.slice A len cap) ds∧IdOk ds:=by
  obtain ⟨m,hm⟩:=h
  have hlt:=DataW.trod_lt m _ _ _ hm
  simp only [Value.cells] at hm
  rcases open_slice_fields ht he hone hC hm with ⟨hc, -⟩|⟨a,l',c',m',D,Pl,hc, -,hl,hcm,hmm,hx,hi⟩
  · simp only [List.cons.injEq,Value.slice.injEq,and_true] at hc
    obtain ⟨rfl,rfl,rfl⟩:=hc
    exact ⟨[],rfl,by simp,⟨none,0,rfl,fun h=>absurd h (by simp)⟩,fun d hd=>by cases hd⟩
  · simp only [List.cons.injEq,Value.slice.injEq,and_true] at hc
    obtain ⟨rfl,rfl,rfl⟩:=hc
    have hmc:len≤m':=by rw [hmm];split<;>omega
    have key: ∀i,i<len→ ∃x:Int×List UInt8,(a.add (i*2)).block<w.heap.size∧w.cell? (a.add (i*2))=some (.int .i64 x.1)∧w.cell? ⟨(a.add (i*2)).block,(a.add (i*2)).off+1,none⟩=some (strOf x.2)∧(Lit.int .i64 x.1).wf=true:=by
      intro i hil
      obtain ⟨ys,n, -, -, -,hf⟩:=hi i (by omega)
      obtain ⟨v0,y0,c0, -,t0⟩:=hf 0 f0 rfl
      obtain ⟨v1,y1,c1, -,t1⟩:=hf 1 f1 rfl
      obtain ⟨x0,e0, -,w0⟩:=DataW.trod_int h0 t0
      obtain ⟨x1,e1, -, -⟩:=DataW.trod_string h1 t1
      simp only [List.cons.injEq,and_true] at e0 e1
      subst e0 e1
      refine ⟨(x0,x1.data.toList),?_,c0,?_,w0⟩
      · exact World.block_lt_of_cell? w _ c0
      · rw [←str_of,add_one];exact c1
    have hget: ∀i,(h:i<len)→((List.range len).map fun i=>if h:i<len then (key i h).choose else ((0:Int),([]:List UInt8)))[i]? =some (key i h).choose:=fun i h=>by
      rw [List.getElem?_map,List.getElem?_range h,Option.map_some,dif_pos h]
    have hlen:((List.range len).map fun i=>if h:i<len then (key i h).choose else ((0:Int),([]:List UInt8))).length=len:=by simp
    refine ⟨_,hlen,by rw [hlen];omega,⟨some a,cap,by rw [hlen],fun hn=>⟨a,rfl,?_,fun i d hd=> ?_⟩⟩,fun d hd=> ?_⟩
    · rw [hlen] at hn
      have:=(key 0 hn).choose_spec.1
      simpa [Addr.add] using this
    · have hil:i<len:=by rw [←hlen];exact (List.getElem?_eq_some_iff.1 hd).1
      rw [hget i hil] at hd
      obtain rfl:=Option.some.inj hd
      obtain ⟨a1,a2,a3, -⟩:=(key i hil).choose_spec
      exact ⟨a1,a2,a3⟩
    · obtain ⟨i,hi⟩:=List.getElem?_of_mem hd
      have hil:i<len:=by rw [←hlen];exact (List.getElem?_eq_some_iff.1 hi).1
      rw [hget i hil] at hi
      obtain rfl:=Option.some.inj hi
      exact (key i hil).choose_spec.2.2.2
end
section
open Go.RowKit
end
section
open Go.RowKit
theorem bldG_calls {w0 W : World} {p : Addr} {L : List (Nat × Obj)} (n : Nat) (hn2 : n ≤ 6000) (h : St w0 W (.pointer (some p)) (Ar.new n) L) (rate : Int) (hr1 : 1 ≤ rate) (hr2 : rate ≤ 1000) (ds : Docs) (hR : Right ds) (hroom : 10000 + 160 * (tot ds + ds.length) ≤ 8 * n) (A : Option Addr) (cap : Nat) (hD : Rd2 W (.slice A ds.length cap) ds) (hno : ∀ a, A = some a → 0 < ds.length → ∀ O, AP W (.pointer (some p)) (Ar.new n) O → (∀ b, O b → w0.heap.size ≤ b) → (∀ y ∈ L, W.heap[y.1]? = some y.2 ∧ ¬ O y.1) → ¬ O a.block) :
    Calls Tryz.prog 17 #[.pointer (some p), .int .i64 rate, .slice A ds.length cap] W fun e w'=> ∃root s',e= .returned (.tuple #[.int .i64 root, .bool true])∧St w0 w' (.pointer (some p)) s' L∧Inv s' [root]∧s'.wait=[]∧s'.size=n∧VR s' root ds rate∧(root=0↔ds=[]):=by
  by_cases hne:ds=[]
  · subst hne
    refine (bldnil_calls (some p) rate A 0 cap rfl W).mono ?_
    rintro e w' ⟨he,hb⟩
    exact ⟨0,_,he,h.below hb,(Inv.new n hn2).zero_cons (by simp),rfl,rfl,⟨.inl ⟨rfl,rfl⟩,fun h=>absurd rfl h⟩,⟨fun _=>rfl,fun _=>rfl⟩⟩
  · obtain ⟨A',c',hv,h2⟩:=id hD
    obtain ⟨rfl, -,rfl⟩:=Value.slice.inj hv
    have hpos:=List.length_pos_iff.2 hne
    obtain ⟨ad,rfl,hlt, -⟩:=h2 hpos
    have hl:=hR.len
    obtain ⟨O,hA,hO,hL⟩:=h.ex
    obtain ⟨B1,B2,root,s',h1,o1,h2',o2,h3,hI,hz,h0,hv,hwt⟩:=build_partsW (Inv.new n hn2) rfl hR hne rate hroom
    refine (build_calls rate hr1 hr2 ds ad cap hne hR.right W hD (fun hq=>hno ad rfl hpos O hA hO hL hq) hA B1 B2 h1 o1 h2' o2 root s' h3).mono ?_
    rintro e w' ⟨he,O',a,b⟩
    exact ⟨root,s',he,h.did (O':=O') ⟨O,hA,hO,hL,a,b⟩,hI,hwt,hz,hv,⟨fun e=>absurd e h0,fun e=>absurd e hne⟩⟩
end
end Go.Proofs.YtmlmnmkhigjaaaaGreat
