/- Part 6 of what CutBack needs: the walks of the program's functions, and plain facts. -/
import Derived.Test.YtlboaaldggpjeaaGreatCutBackM5
import Derived.Sort.LotA
import Derived.IntWalk
set_option linter.unusedSimpArgs false
set_option linter.unusedVariables false
set_option linter.unnecessarySimpa false
namespace Go.Proofs.YtlboaaldggpjeaaGreat
set_option maxRecDepth 100000
set_option maxHeartbeats 8000000
section
open Go.RowKit
attribute [local go_sem ↓] Go.wp_at_zero Go.wp_at_succ
attribute [local go_sem] lt_s2 lt_s3 lt_s4
attribute [local go_sem] idx0 idx1 idx2 idx3
variable {ap : Value}
theorem wCut_step (d : Nat) (hd : d + 1 ≤ 9) (s : Ar) (O : Nat → Prop) (h i l : Int) (hl : l = 9 - ((d + 1 : Nat) : Int)) (r : Int × Int × Ar) (w : World) (o : Bool × Bool) (one : Bool) (ho : bGet s (s.get h).k0 i = some o) (ho1 : o.1 = one) (j : Int) (hj : wAlike s (s.get h).k0 i one = some j)
    (u:Int×Int×Ar) (he:u.2.1=0) (v:Int×Int×Ar) (hv:bDelG (u.2.2.keep ((s.get h).kid !one)) (s.get h).k0 i=some v) (hr:r=wMade v.2.2 ⟨3,v.1,if one then (s.get h).k1 else u.1,if one then u.1 else (s.get h).k2,0,0,0⟩ v.2.1)
    (ih:Hid (∀(l':Int) (w:World),l'=wrap64 (l+1)→AP w ap s O→Calls Tryz.prog 176 #[ap, .int .i64 ((s.get h).kid one), .int .i64 j, .int .i64 l'] w fun e w'=>e= .returned (.tuple #[.int .i64 u.1, .int .i64 u.2.1])∧Did noX ap u.2.2 O w w'))
    (hA:AP w ap s O):
    Calls Tryz.prog 176 #[ap, .int .i64 h, .int .i64 i, .int .i64 l] w fun e w'=>e= .returned (.tuple #[.int .i64 r.1, .int .i64 r.2.1])∧Did noX ap r.2.2 O w w':=by
  have d1:decide (8<l)=false:=by simp;omega
  have d2:(u.2.1 !=0)=false:=by simp [he]
  have Ho:=Lib.hid ho;have Hj:=Lib.hid hj;have Hv:=Lib.hid hv;have Hr:=Lib.hid hr
  have hl0:0≤l:=by omega
  have hl1:l≤8:=by omega
  have hz:U64 0:=⟨by decide,by decide⟩
  clear ho hj hv hr he hl hd
  go_enter Tryz.func176,Tryz.ntmps176
  go_wp2_with fail
  refine cg fun V hV_V=> ?_
  have hF:=Fr.refl (noX) O w
  refine nef0 hV_V hA hF ?_;clear hA hF;intro z_V hA hF
  clear hV_V
  refine rC (wRow_calls _ _ hA) fun W1 hb_W1=> ?_
  refine bef0 hb_W1 hA hF ?_;clear hb_W1 hA hF;intro z_W1 hA hF
  unfold Nd.val
  go_wp2_with fail
  refine cg fun V1 hV_V1=> ?_
  refine nnf0 hV_V1 hA hF ?_;clear hA hF;intro hn_V1 z_V1 hA hF
  obtain ⟨kn,c_kn,o_kn,l_knV1⟩:=nN hn_V1 hV_V1 (W1.heap.size)
  clear hV_V1 hn_V1
  refine rC (bGet_calls _ _ o Ho.out _ hA) fun W9 hb_W9=> ?_
  refine bef1 hb_W9 hA hF kn ?_;clear hb_W9 hA hF kn c_kn;intro z_W9 hA hF kn c_kn
  rw [ho1]
  go_wp2_with fail
  refine wg fun V2 hV_V2=> ?_
  refine nnf1 hV_V2 hA hF kn ?_;clear hA hF kn c_kn;intro hn_V2 z_V2 hA hF kn c_kn
  obtain ⟨kx,c_kx,o_kx,l_kxV2⟩:=nN hn_V2 hV_V2 (W9.heap.size)
  clear hV_V2 hn_V2
  refine dr (fun v=>Sm v V2 (W1.heap.size)∧Sm v V2 (W9.heap.size)∧(V2.heap.size≤v.heap.size)∧True) ⟨fun _=>rfl,fun _=>rfl,Nat.le_refl _,trivial⟩ fun V2d hV_V2d hHeld=> ?_
  have v_kn:=c_kn.1;have v_kx:=c_kx.1
  refine nef2 hV_V2d hA hF kn kx ?_;clear hA hF kn kx c_kn c_kx;intro z_V2d hA hF kn c_kn kx c_kx
  clear hV_V2d
  refine ta 0 hHeld ?_
  refine ta 1 hHeld ?_
  refine ta 2 hHeld ?_
  refine ta 4 hHeld ?_
  refine ta 5 hHeld ?_
  refine ta 6 hHeld ?_
  refine ta 7 hHeld ?_
  refine ta 8 hHeld ?_
  refine ta 9 hHeld ?_
  refine ta 11 hHeld ?_
  refine ta 12 hHeld ?_
  refine rd 3 rfl fun K hK=> ?_
  go_simp
  try simp only [IntWalk.i64_left]
  refine rC (wKid_calls (s.get h) one _) fun W2 hb_W2=> ?_
  refine bef2 hb_W2 hA hF kn kx ?_;clear hb_W2 hA hF kn kx c_kn c_kx;intro z_W2 hA hF kn c_kn kx c_kx
  refine ho hK ⟨vv c_kn v_kn,vv c_kx v_kx,by omega,trivial⟩ fun hHeld=> ?_
  clear hK K
  refine rd 10 rfl fun K hK=> ?_
  go_simp
  try simp only [IntWalk.i64_left]
  refine rC (wAlike_calls _ _ _ _ Hj.out _ hA) fun W3 hb_W3=> ?_
  refine bef2 hb_W3 hA hF kn kx ?_;clear hb_W3 hA hF kn kx c_kn c_kx;intro z_W3 hA hF kn c_kn kx c_kx
  refine ho hK ⟨vv c_kn v_kn,vv c_kx v_kx,by omega,trivial⟩ fun hHeld=> ?_
  clear hK K
  refine rd 13 rfl fun K hK=> ?_
  go_simp
  try simp only [IntWalk.i64_left]
  refine wC (ih.out _ _ rfl hA) fun W4 O1 hA_W4 hf_W4=> ?_
  refine wif2 hf_W4 hF kn o_kn kx o_kx ?_;clear hA hF kn o_kn kx o_kx c_kn c_kx hf_W4;intro z_W4 hF kn c_kn o_kn kx c_kx o_kx;have hA:=hA_W4;clear hA_W4
  refine ho hK ⟨vv c_kn v_kn,vv c_kx v_kx,by omega,trivial⟩ fun hHeld=> ?_
  clear hK K
  refine ta 14 hHeld ?_
  refine ta 15 hHeld ?_
  refine ta 16 hHeld ?_
  refine rd 17 rfl fun K hK=> ?_
  go_simp
  refine ho hK hHeld fun hHeld=> ?_
  clear hK K
  refine rd 18 rfl fun K hK=> ?_
  go_simp
  refine ho hK hHeld fun hHeld=> ?_
  clear hK K
  refine wd ?_
  cases one with
  | true=>
    go_wp2_with fail
    refine cg fun V5 hV_V5=> ?_
    refine nef2 hV_V5 hA hF kn kx ?_;clear hA hF kn kx c_kn c_kx;intro z_V5 hA hF kn c_kn kx c_kx
    clear hV_V5
    refine rC (wKid_calls (⟨3,0,(s.get h).k1,u.1,0,0,0⟩) false _) fun W5 hb_W5=> ?_
    refine bef2 hb_W5 hA hF kn kx ?_;clear hb_W5 hA hF kn kx c_kn c_kx;intro z_W5 hA hF kn c_kn kx c_kx
    go_wp2_with fail
    refine cg fun V6 hV_V6=> ?_
    refine nef2 hV_V6 hA hF kn kx ?_;clear hA hF kn kx c_kn c_kx;intro z_V6 hA hF kn c_kn kx c_kx
    clear hV_V6
    refine wC (keep_calls ((s.get h).kid !true) _ hA) fun W6 O2 hA_W6 hf_W6=> ?_
    refine wif2 hf_W6 hF kn o_kn kx o_kx ?_;clear hA hF kn o_kn kx o_kx c_kn c_kx hf_W6;intro z_W6 hF kn c_kn o_kn kx c_kx o_kx;have hA:=hA_W6;clear hA_W6
    go_wp2_with fail
    refine cg fun V7 hV_V7=> ?_
    refine nef2 hV_V7 hA hF kn kx ?_;clear hA hF kn kx c_kn c_kx;intro z_V7 hA hF kn c_kn kx c_kx
    clear hV_V7
    refine wC (bDelete_calls _ _ _ Hv.out _ hA) fun W7 O3 hA_W7 hf_W7=> ?_
    refine wif2 hf_W7 hF kn o_kn kx o_kx ?_;clear hA hF kn o_kn kx o_kx c_kn c_kx hf_W7;intro z_W7 hF kn c_kn o_kn kx c_kx o_kx;have hA:=hA_W7;clear hA_W7
    go_wp2_with fail
    refine cg fun V8 hV_V8=> ?_
    refine nef2 hV_V8 hA hF kn kx ?_;clear hA hF kn kx c_kn c_kx;intro z_V8 hA hF kn c_kn kx c_kx
    clear hV_V8
    refine wC (wMade_calls (⟨3,v.1,(s.get h).k1,u.1,0,0,0⟩) hz v.2.1 _ hA) fun W8 O4 hA_W8 hf_W8=> ?_
    refine wif2 hf_W8 hF kn o_kn kx o_kx ?_;clear hA hF kn o_kn kx o_kx c_kn c_kx hf_W8;intro z_W8 hF kn c_kn o_kn kx c_kx o_kx;have hA:=hA_W8;clear hA_W8
    go_wp2_with fail
    go_ret2
    rw [Hr.out]
    exact ⟨rfl,O4,hA,hF⟩
  | false=>
    go_wp2_with fail
    refine wg fun V5 hV_V5=> ?_
    refine nef2 hV_V5 hA hF kn kx ?_;clear hA hF kn kx c_kn c_kx;intro z_V5 hA hF kn c_kn kx c_kx
    clear hV_V5
    refine dr (fun v=>Sm v V5 (W1.heap.size)∧(V5.heap.size≤v.heap.size)∧AP v ap u.2.2 O1) ⟨fun _=>rfl,Nat.le_refl _,hA.drew⟩ fun V5d hV_V5d hHeld=> ?_
    have v_kn:=c_kn.1
    refine nef2 hV_V5d hA hF kn kx ?_;clear hA hF kn kx c_kn c_kx;intro z_V5d hA hF kn c_kn kx c_kx
    clear hV_V5d
    refine ta 0 hHeld ?_
    refine ta 1 hHeld ?_
    refine ta 2 hHeld ?_
    refine ta 3 hHeld ?_
    refine ta 4 hHeld ?_
    refine ta 5 hHeld ?_
    refine ta 7 hHeld ?_
    refine rd 6 rfl fun K hK=> ?_
    go_simp
    refine ga (K:=K) fun D1 hV_D1=> ?_
    refine nef2 hV_D1 hA hF kn kx ?_;clear hA hF kn kx c_kn c_kx;intro z_D1 hA hF kn c_kn kx c_kx
    clear hV_D1
    refine ho hK ⟨vv c_kn v_kn,by omega,hA⟩ fun hHeld=> ?_
    clear hK K
    refine ta 8 hHeld ?_
    refine rd 9 rfl fun K hK=> ?_
    go_simp
    refine ga (K:=K) fun D2 hV_D2=> ?_
    refine nef2 hV_D2 hA hF kn kx ?_;clear hA hF kn kx c_kn c_kx;intro z_D2 hA hF kn c_kn kx c_kx
    clear hV_D2
    refine ho hK ⟨vv c_kn v_kn,by omega,hA⟩ fun hHeld=> ?_
    clear hK K
    refine wd ?_
    go_wp2_with fail
    refine cg fun V6 hV_V6=> ?_
    refine nef2 hV_V6 hA hF kn kx ?_;clear hA hF kn kx c_kn c_kx;intro z_V6 hA hF kn c_kn kx c_kx
    clear hV_V6
    refine rC (wKid_calls (⟨3,0,u.1,(s.get h).k2,0,0,0⟩) true _) fun W5 hb_W5=> ?_
    refine bef2 hb_W5 hA hF kn kx ?_;clear hb_W5 hA hF kn kx c_kn c_kx;intro z_W5 hA hF kn c_kn kx c_kx
    go_wp2_with fail
    refine cg fun V7 hV_V7=> ?_
    refine nef2 hV_V7 hA hF kn kx ?_;clear hA hF kn kx c_kn c_kx;intro z_V7 hA hF kn c_kn kx c_kx
    clear hV_V7
    refine wC (keep_calls ((s.get h).kid !false) _ hA) fun W6 O2 hA_W6 hf_W6=> ?_
    refine wif2 hf_W6 hF kn o_kn kx o_kx ?_;clear hA hF kn o_kn kx o_kx c_kn c_kx hf_W6;intro z_W6 hF kn c_kn o_kn kx c_kx o_kx;have hA:=hA_W6;clear hA_W6
    go_wp2_with fail
    refine cg fun V8 hV_V8=> ?_
    refine nef2 hV_V8 hA hF kn kx ?_;clear hA hF kn kx c_kn c_kx;intro z_V8 hA hF kn c_kn kx c_kx
    clear hV_V8
    refine wC (bDelete_calls _ _ _ Hv.out _ hA) fun W7 O3 hA_W7 hf_W7=> ?_
    refine wif2 hf_W7 hF kn o_kn kx o_kx ?_;clear hA hF kn o_kn kx o_kx c_kn c_kx hf_W7;intro z_W7 hF kn c_kn o_kn kx c_kx o_kx;have hA:=hA_W7;clear hA_W7
    go_wp2_with fail
    refine cg fun V9 hV_V9=> ?_
    refine nef2 hV_V9 hA hF kn kx ?_;clear hA hF kn kx c_kn c_kx;intro z_V9 hA hF kn c_kn kx c_kx
    clear hV_V9
    refine wC (wMade_calls (⟨3,v.1,u.1,(s.get h).k2,0,0,0⟩) hz v.2.1 _ hA) fun W8 O4 hA_W8 hf_W8=> ?_
    refine wif2 hf_W8 hF kn o_kn kx o_kx ?_;clear hA hF kn o_kn kx o_kx c_kn c_kx hf_W8;intro z_W8 hF kn c_kn o_kn kx c_kx o_kx;have hA:=hA_W8;clear hA_W8
    go_wp2_with fail
    go_ret2
    rw [Hr.out]
    exact ⟨rfl,O4,hA,hF⟩
theorem wCut_err (d : Nat) (hd : d + 1 ≤ 9) (s : Ar) (O : Nat → Prop) (h i l : Int) (hl : l = 9 - ((d + 1 : Nat) : Int)) (r : Int × Int × Ar) (w : World) (o : Bool × Bool) (one : Bool) (ho : bGet s (s.get h).k0 i = some o) (ho1 : o.1 = one) (j : Int) (hj : wAlike s (s.get h).k0 i one = some j)
    (u:Int×Int×Ar) (he: ¬u.2.1=0) (hr:r=(0,u.2.1,u.2.2))
    (ih:Hid (∀(l':Int) (w:World),l'=wrap64 (l+1)→AP w ap s O→Calls Tryz.prog 176 #[ap, .int .i64 ((s.get h).kid one), .int .i64 j, .int .i64 l'] w fun e w'=>e= .returned (.tuple #[.int .i64 u.1, .int .i64 u.2.1])∧Did noX ap u.2.2 O w w'))
    (hA:AP w ap s O):
    Calls Tryz.prog 176 #[ap, .int .i64 h, .int .i64 i, .int .i64 l] w fun e w'=>e= .returned (.tuple #[.int .i64 r.1, .int .i64 r.2.1])∧Did noX ap r.2.2 O w w':=by
  have d1:decide (8<l)=false:=by simp;omega
  have d2:(u.2.1 !=0)=true:=by simp [he]
  have Ho:=Lib.hid ho;have Hj:=Lib.hid hj;have Hr:=Lib.hid hr
  have hl0:0≤l:=by omega
  have hl1:l≤8:=by omega
  have hz:U64 0:=⟨by decide,by decide⟩
  clear ho hj hr he hl hd
  go_enter Tryz.func176,Tryz.ntmps176
  go_wp2_with fail
  refine cg fun V hV_V=> ?_
  have hF:=Fr.refl (noX) O w
  refine nef0 hV_V hA hF ?_;clear hA hF;intro z_V hA hF
  clear hV_V
  refine rC (wRow_calls _ _ hA) fun W1 hb_W1=> ?_
  refine bef0 hb_W1 hA hF ?_;clear hb_W1 hA hF;intro z_W1 hA hF
  unfold Nd.val
  go_wp2_with fail
  refine cg fun V1 hV_V1=> ?_
  refine nnf0 hV_V1 hA hF ?_;clear hA hF;intro hn_V1 z_V1 hA hF
  obtain ⟨kn,c_kn,o_kn,l_knV1⟩:=nN hn_V1 hV_V1 (W1.heap.size)
  clear hV_V1 hn_V1
  refine rC (bGet_calls _ _ o Ho.out _ hA) fun W9 hb_W9=> ?_
  refine bef1 hb_W9 hA hF kn ?_;clear hb_W9 hA hF kn c_kn;intro z_W9 hA hF kn c_kn
  rw [ho1]
  go_wp2_with fail
  refine wg fun V2 hV_V2=> ?_
  refine nnf1 hV_V2 hA hF kn ?_;clear hA hF kn c_kn;intro hn_V2 z_V2 hA hF kn c_kn
  obtain ⟨kx,c_kx,o_kx,l_kxV2⟩:=nN hn_V2 hV_V2 (W9.heap.size)
  clear hV_V2 hn_V2
  refine dr (fun v=>Sm v V2 (W1.heap.size)∧Sm v V2 (W9.heap.size)∧(V2.heap.size≤v.heap.size)∧True) ⟨fun _=>rfl,fun _=>rfl,Nat.le_refl _,trivial⟩ fun V2d hV_V2d hHeld=> ?_
  have v_kn:=c_kn.1;have v_kx:=c_kx.1
  refine nef2 hV_V2d hA hF kn kx ?_;clear hA hF kn kx c_kn c_kx;intro z_V2d hA hF kn c_kn kx c_kx
  clear hV_V2d
  refine ta 0 hHeld ?_
  refine ta 1 hHeld ?_
  refine ta 2 hHeld ?_
  refine ta 4 hHeld ?_
  refine ta 5 hHeld ?_
  refine ta 6 hHeld ?_
  refine ta 7 hHeld ?_
  refine ta 8 hHeld ?_
  refine ta 9 hHeld ?_
  refine ta 11 hHeld ?_
  refine ta 12 hHeld ?_
  refine rd 3 rfl fun K hK=> ?_
  go_simp
  try simp only [IntWalk.i64_left]
  refine rC (wKid_calls (s.get h) one _) fun W2 hb_W2=> ?_
  refine bef2 hb_W2 hA hF kn kx ?_;clear hb_W2 hA hF kn kx c_kn c_kx;intro z_W2 hA hF kn c_kn kx c_kx
  refine ho hK ⟨vv c_kn v_kn,vv c_kx v_kx,by omega,trivial⟩ fun hHeld=> ?_
  clear hK K
  refine rd 10 rfl fun K hK=> ?_
  go_simp
  try simp only [IntWalk.i64_left]
  refine rC (wAlike_calls _ _ _ _ Hj.out _ hA) fun W3 hb_W3=> ?_
  refine bef2 hb_W3 hA hF kn kx ?_;clear hb_W3 hA hF kn kx c_kn c_kx;intro z_W3 hA hF kn c_kn kx c_kx
  refine ho hK ⟨vv c_kn v_kn,vv c_kx v_kx,by omega,trivial⟩ fun hHeld=> ?_
  clear hK K
  refine rd 13 rfl fun K hK=> ?_
  go_simp
  try simp only [IntWalk.i64_left]
  refine wC (ih.out _ _ rfl hA) fun W4 O1 hA_W4 hf_W4=> ?_
  refine wif2 hf_W4 hF kn o_kn kx o_kx ?_;clear hA hF kn o_kn kx o_kx c_kn c_kx hf_W4;intro z_W4 hF kn c_kn o_kn kx c_kx o_kx;have hA:=hA_W4;clear hA_W4
  refine ho hK ⟨vv c_kn v_kn,vv c_kx v_kx,by omega,trivial⟩ fun hHeld=> ?_
  clear hK K
  refine ta 14 hHeld ?_
  refine ta 15 hHeld ?_
  refine ta 16 hHeld ?_
  refine rd 17 rfl fun K hK=> ?_
  go_simp
  refine ho hK hHeld fun hHeld=> ?_
  clear hK K
  refine rd 18 rfl fun K hK=> ?_
  go_simp
  refine ho hK hHeld fun hHeld=> ?_
  clear hK K
  refine wd ?_
  go_wp2_with fail
  go_ret2
  rw [Hr.out]
  exact ⟨rfl,O1,hA,hF⟩
theorem wCut_end (s : Ar) (O : Nat → Prop) (h i : Int) (w : World) (hA : AP w ap s O) :
    Calls Tryz.prog 176 #[ap, .int .i64 h, .int .i64 i, .int .i64 9] w fun e w'=>e= .returned (.tuple #[.int .i64 0, .int .i64 0])∧Did noX ap s O w w':=by
  go_enter Tryz.func176,Tryz.ntmps176
  go_wp2_with fail
  go_ret2
  exact ⟨rfl,O,hA,Fr.refl _ _ _⟩
theorem wCut_calls : ∀ (d : Nat) (hd : d ≤ 9) (s : Ar) (O : Nat → Prop) (h i l : Int) (hl : l = 9 - (d : Int)) (r : Int × Int × Ar) (hr : wCutG d s h i = some r) (w : World) (hA : AP w ap s O),
    Calls Tryz.prog 176 #[ap, .int .i64 h, .int .i64 i, .int .i64 l] w fun e w'=>e= .returned (.tuple #[.int .i64 r.1, .int .i64 r.2.1])∧Did noX ap r.2.2 O w w'
  | 0,hd,s,O,h,i,l,hl,r,hr,w,hA=>by
    obtain rfl:l=9:=by simpa using hl
    unfold wCutG at hr
    obtain rfl:=Option.some.inj hr
    exact wCut_end s O h i w hA
  | d+1,hd,s,O,h,i,l,hl,r,hr,w,hA=>by
    unfold wCutG at hr
    obtain ⟨o,ho,hr⟩:=Option.bind_eq_some_iff.1 hr
    obtain ⟨j,hj,hr⟩:=Option.bind_eq_some_iff.1 hr
    obtain ⟨u,hu,hr⟩:=Option.bind_eq_some_iff.1 hr
    have hl':l=8 - (d:Int):=by omega
    have hw:wrap64 (l+1)=9 - (d:Int):=by rw [IntWalk.wrap64_in _ (by omega)];omega
    have ih:Hid (∀(l':Int) (w:World),l'=wrap64 (l+1)→AP w ap s O→Calls Tryz.prog 176 #[ap, .int .i64 ((s.get h).kid o.1), .int .i64 j, .int .i64 l'] w fun e w'=>e= .returned (.tuple #[.int .i64 u.1, .int .i64 u.2.1])∧Did noX ap u.2.2 O w w'):=by
      refine Lib.hid fun l' w hl2 hA=> ?_
      exact wCut_calls d (by omega) s O _ j l' (by rw [hl2,hw]) u hu w hA
    by_cases he:u.2.1=0
    · rw [if_pos he] at hr
      obtain ⟨v,hv,hr⟩:=Option.bind_eq_some_iff.1 hr
      have hr:=(Option.some.inj hr).symm
      exact wCut_step d hd s O h i l hl r w o _ ho rfl j hj u he v hv hr ih hA
    · rw [if_neg he] at hr
      have hr:=(Option.some.inj hr).symm
      exact wCut_err d hd s O h i l hl r w o _ ho rfl j hj u he hr ih hA
theorem wDelete_calls (s : Ar) (O : Nat → Prop) (h i : Int) (r : Int × Int × Ar) (hr : wDelG s h i = some r) (w : World) (hA : AP w ap s O) :
    Calls Tryz.prog 139 #[ap, .int .i64 h, .int .i64 i] w fun e w'=>e= .returned (.tuple #[.int .i64 r.1, .int .i64 r.2.1])∧Did noX ap r.2.2 O w w':=by
  unfold wDelG at hr
  by_cases h1:i<0
  · have d1:decide (i<0)=true:=by simpa using h1
    rw [if_pos (.inl h1)] at hr
    obtain rfl:=Option.some.inj hr
    clear hr h1
    go_enter Tryz.func139,Tryz.ntmps139
    go_wp2_with fail
    go_ret2
    exact ⟨rfl,O,hA,Fr.refl _ _ _⟩
  · have d1:decide (i<0)=false:=by simpa using h1
    by_cases h2:wLen s h≤i
    · have d2:decide (wLen s h≤i)=true:=by simpa using h2
      rw [if_pos (.inr h2)] at hr
      obtain rfl:=Option.some.inj hr
      clear hr h1 h2
      go_enter Tryz.func139,Tryz.ntmps139
      go_wp2_with fail
      refine cg fun V1 hV_V1=> ?_
      have hF:=Fr.refl (noX) O w
      refine nef0 hV_V1 hA hF ?_;clear hA hF;intro z_V1 hA hF
      clear hV_V1
      refine rC (wLen_calls _ _ hA) fun W2 hb_W2=> ?_
      refine bef0 hb_W2 hA hF ?_;clear hb_W2 hA hF;intro z_W2 hA hF
      go_wp2_with fail
      go_ret2
      exact ⟨rfl,O,hA,hF⟩
    · have d2:decide (wLen s h≤i)=false:=by simpa using h2
      rw [if_neg (by omega)] at hr
      have Hr:=Lib.hid hr
      clear hr h1 h2
      go_enter Tryz.func139,Tryz.ntmps139
      go_wp2_with fail
      refine cg fun V1 hV_V1=> ?_
      have hF:=Fr.refl (noX) O w
      refine nef0 hV_V1 hA hF ?_;clear hA hF;intro z_V1 hA hF
      clear hV_V1
      refine rC (wLen_calls _ _ hA) fun W2 hb_W2=> ?_
      refine bef0 hb_W2 hA hF ?_;clear hb_W2 hA hF;intro z_W2 hA hF
      go_wp2_with fail
      refine cg fun V2 hV_V2=> ?_
      refine nef0 hV_V2 hA hF ?_;clear hA hF;intro z_V2 hA hF
      clear hV_V2
      refine wC (wCut_calls 9 (Nat.le_refl _) s O h i 0 rfl r Hr.out _ hA) fun W3 O1 hA_W3 hf_W3=> ?_
      refine wif0 hf_W3 hF ?_;clear hA hF hf_W3;intro z_W3 hF;have hA:=hA_W3;clear hA_W3
      go_wp2_with fail
      go_ret2
      exact ⟨rfl,O1,hA,hF⟩
end
section
open Go.RowKit
attribute [local go_sem ↓] Go.wp_at_zero Go.wp_at_succ
attribute [local go_sem] lt_s2 lt_s3 lt_s4
variable {ap : Value} {O : Nat → Prop} {s : Ar} {tb : Nat}
theorem lDel1_calls (tb:Nat):OneC tb ap (fun _ _=>True) 177 #[] (fun t _=>some (0,t)):=by
  intro t O h r w hr hT _
  obtain rfl:=Option.some.inj hr
  clear hr
  show Calls Tryz.prog 177 #[.int .i64 h] w _
  go_enter Tryz.func177,Tryz.ntmps177
  go_wp2_with fail
  go_ret
  exact ⟨rfl,O,hT,Fr.refl _ _ _⟩
theorem lDel1_fun (args:Array Value) (w:World):(callFunc 177 args).run Tryz.prog w= .ok (.enter 177 args) w:=by kernel_rfl
theorem lDel1_keep (tb:Nat):KeepC tb (fun _ _=>True):=fun _ _ _ _ _ _=>trivial
theorem lDelete_calls (h i : Int) (r : Int × Int × Ar) (hr : lDelete s h i = some r) (w : World) (hA : AP w ap s O) :
    Calls Tryz.prog 140 #[ap, .int .i64 h, .int .i64 i] w fun e w'=>e= .returned (.tuple #[.int .i64 r.1, .int .i64 r.2.1])∧Did noX ap r.2.2 O w w':=by
  obtain ⟨q,rfl⟩:=hA.ptr
  unfold lDelete at hr
  by_cases h1:i<0
  · have d1:decide (i<0)=true:=by simpa using h1
    rw [if_pos (.inl h1)] at hr
    obtain rfl:=Option.some.inj hr
    clear hr h1
    go_enter Tryz.func140,Tryz.ntmps140
    go_wp2_with fail
    go_ret2
    exact ⟨rfl,O,hA,Fr.refl _ _ _⟩
  · have d1:decide (i<0)=false:=by simpa using h1
    by_cases h2:lLen s h≤i
    · have d2:decide (lLen s h≤i)=true:=by simpa using h2
      rw [if_pos (.inr h2)] at hr
      obtain rfl:=Option.some.inj hr
      clear hr h1 h2
      go_enter Tryz.func140,Tryz.ntmps140
      go_wp2_with fail
      refine cg fun V hV_V=> ?_
      have hF:=Fr.refl (noX) O w
      refine nef0 hV_V hA hF ?_;clear hA hF;intro z_V hA hF
      clear hV_V
      refine rC (lLen_calls _ _ hA) fun W1 hb_W1=> ?_
      refine bef0 hb_W1 hA hF ?_;clear hb_W1 hA hF;intro z_W1 hA hF
      go_wp2_with fail
      go_ret2
      exact ⟨rfl,O,hA,hF⟩
    · have d2:decide (lLen s h≤i)=false:=by simpa using h2
      rw [if_neg (by omega)] at hr
      obtain ⟨u,hu,rfl⟩:=Option.map_eq_some_iff.1 hr
      have Hu:=Lib.hid hu
      clear hr hu h1 h2
      go_enter Tryz.func140,Tryz.ntmps140
      go_wp2_with fail
      refine cg fun V hV_V=> ?_
      have hF:=Fr.refl (noX) O w
      refine nef0 hV_V hA hF ?_;clear hA hF;intro z_V hA hF
      clear hV_V
      refine rC (lLen_calls _ _ hA) fun W1 hb_W1=> ?_
      refine bef0 hb_W1 hA hF ?_;clear hb_W1 hA hF;intro z_W1 hA hF
      go_wp2_with fail
      refine cg fun V1 hV_V1=> ?_
      refine nnf0 hV_V1 hA hF ?_;clear hA hF;intro hn_V1 z_V1 hA hF
      obtain ⟨kt,c_kt,o_kt,l_ktV1⟩:=nN hn_V1 hV_V1 (W1.heap.size)
      clear hV_V1 hn_V1
      refine tC (lChange_calls lDel1_fun (Lib.hid (lDel1_keep W1.heap.size)) (Lib.hid (lDel1_calls W1.heap.size)) rounds ⟨s,0⟩ _ _ _ u _ Hu.out ⟨hA,kt,o_kt⟩ trivial) fun W2 O1 hT hf=> ?_
      refine tn0 hT.hA hT.blk hT.no hf hF ?_;clear hA hF kt c_kt o_kt hT hf;intro z_W2 hA hF kt c_kt o_kt
      go_wp2_with fail
      refine cg fun V2 hV_V2=> ?_
      refine nef1 hV_V2 hA hF kt ?_;clear hA hF kt c_kt;intro z_V2 hA hF kt c_kt
      clear hV_V2
      refine tC (lTold_calls (t:=u.2) u.1 _ ⟨hA,kt,o_kt⟩) fun W3 O2 hT hf=> ?_
      refine tn0 hT.hA hT.blk hT.no hf hF ?_;clear hA hF kt c_kt o_kt hT hf;intro z_W3 hA hF kt c_kt o_kt
      go_wp2_with fail
      go_ret2
      refine ⟨rfl,O2,?_,hF⟩
      rw [told_s];exact hA
theorem tCutT_calls (h id : Int) (l : List (Int × Int)) (hl : lAll s h = some l) (hll : l.length ≤ 50000) (r : Int × Int × Ar) (hr : tCut s h id = some r) (w : World) (hA : AP w ap s O) :
    Calls Tryz.prog 100 #[ap, .int .i64 h, .int .i64 id] w fun e w'=>e= .returned (.tuple #[.int .i64 r.1, .int .i64 r.2.1])∧Did noX ap r.2.2 O w w':=by
  unfold tCut tPlace at hr
  rw [hl,Option.map_some,Option.bind_some] at hr
  obtain ⟨p,hp⟩: ∃p,placeIn id l 0=p:=⟨_,rfl⟩
  rw [hp] at hr
  have Hp:=Lib.hid hp;have Hl:=Lib.hid hl
  obtain ⟨k,is⟩:=p
  clear hp hl
  cases is with
  | true=>
    rw [if_pos rfl] at hr
    have Hr:=Lib.hid hr
    clear hr
    go_enter Tryz.func100,Tryz.ntmps100
    go_wp2_with fail
    refine cg fun V hV_V=> ?_
    have hF:=Fr.refl (noX) O w
    refine nef0 hV_V hA hF ?_;clear hA hF;intro z_V hA hF
    clear hV_V
    refine rC (tPlace_calls _ _ l Hl.out hll _ hA) fun W1 hb_W1=> ?_
    refine bef0 hb_W1 hA hF ?_;clear hb_W1 hA hF;intro z_W1 hA hF
    rw [Hp.out]
    go_wp2_with fail
    refine cg fun V1 hV_V1=> ?_
    refine nef0 hV_V1 hA hF ?_;clear hA hF;intro z_V1 hA hF
    clear hV_V1
    refine wC (lDelete_calls h k r Hr.out _ hA) fun W2 O1 hA_W2 hf_W2=> ?_
    refine wif0 hf_W2 hF ?_;clear hA hF hf_W2;intro z_W2 hF;have hA:=hA_W2;clear hA_W2
    go_wp2_with fail
    go_ret2
    exact ⟨rfl,O1,hA,hF⟩
  | false=>
    rw [if_neg (by simp)] at hr
    obtain rfl:=Option.some.inj hr
    clear hr
    go_enter Tryz.func100,Tryz.ntmps100
    go_wp2_with fail
    refine cg fun V hV_V=> ?_
    have hF:=Fr.refl (noX) O w
    refine nef0 hV_V hA hF ?_;clear hA hF;intro z_V hA hF
    clear hV_V
    refine rC (tPlace_calls _ _ l Hl.out hll _ hA) fun W1 hb_W1=> ?_
    refine bef0 hb_W1 hA hF ?_;clear hb_W1 hA hF;intro z_W1 hA hF
    rw [Hp.out]
    go_wp2_with fail
    go_ret2
    exact ⟨rfl,O,hA,hF⟩
end
section
open Go.RowKit Go.Sort
attribute [local go_sem ↓] Go.wp_at_zero Go.wp_at_succ
attribute [local go_sem] lt_s2 lt_s3 lt_s4 str_len
variable {ap : Value} {O : Nat → Prop} {tb : Nat} {A : Option Addr} {cap : Nat}
theorem last_of {l:List Int} {m:Nat} (h:l.length=m+1):l[m]? =some (l.getLastD 0)∧l.dropLast.length=m∧l.take m=l.dropLast:=by
  have hne:l≠[]:=fun e=>by rw [e] at h;simp at h
  refine ⟨?_,by rw [List.length_dropLast,h];rfl,by rw [List.dropLast_eq_take,h];rfl⟩
  rw [List.getLastD_eq_getLast?,List.getLast?_eq_getElem?,h]
  simp only [Nat.add_sub_cancel]
  rw [List.getElem?_eq_getElem (by omega)];rfl
theorem swap_rows (x:Ct) (i:Nat) (r:Int×Int×Ar):(x.swap i r).2.rows=x.rows∧(x.swap i r).2.place=x.place:=by
  unfold Ct.swap;split<;>exact ⟨rfl,rfl⟩
theorem didr_less {x y:Ct} {g m:Nat} {w w':World} {O':Nat→Prop} (hR:RB w tb x.rows O (some ⟨g,0,none⟩) cap) (hC:CB w' tb ap y O' (some ⟨g,0,none⟩) cap) (hF:Fr (oneX tb) O O' w w') (hy:y.rows=x.rows.take m) (hm:m≤x.rows.length):DidR tb ap y O (some ⟨g,0,none⟩) w w':=by
  have h2:=hR.keep hF
  refine ⟨O',_,cap,hC,⟨?_,h2.no⟩,hF.mono fun k hk=> .inl hk,fun a ha=> .inl ⟨a,ha,rfl⟩⟩
  obtain ⟨cur,a,b,c,d,e,f⟩:=own_parts h2.own
  have hl:(x.rows.take m).length=m:=by rw [List.length_take];omega
  rw [hy,hl]
  refine ⟨by rw [List.length_map,hl];omega, .inr ⟨g,cap,cur,rfl,a,b,by omega,d,e,?_⟩⟩
  rw [List.map_take,←f,List.take_take,show min m (x.rows.length*1)=m*1 by omega]
theorem cTake_calls (x : Ct) (r : Int × Ct) (hr : x.take = some r) (hne : x.rows ≠ []) (hl : x.rows.length ≤ 500) (w : World) (hT : CB w tb ap x O A cap) (hR : RB w tb x.rows O A cap) :
    Calls Tryz.prog 99 #[.pointer (some ⟨tb,0,none⟩)] w fun e w'=>e= .returned (.int .i64 r.1)∧DidR tb ap r.2 O A w w':=by
  obtain ⟨m,hm⟩: ∃m,x.rows.length=m+1:=⟨x.rows.length - 1,by have:=List.length_pos_iff.2 hne;omega⟩
  obtain ⟨g,hA0, -⟩:=own_some hR.own (by omega)
  subst hA0
  obtain ⟨r1,hr1,hr⟩:=Option.bind_eq_some_iff.1 hr
  have HR:=Lib.hid hR;have HR1:=Lib.hid hr1;have HRR:=Lib.hid hr;have HT:=Lib.hid hT
  obtain ⟨hlast,hdl,htk⟩:=last_of hm
  have hw1:wrap64 (((m+1:Nat):Int) - 1)=(m:Int):=by rw [IntWalk.wrap64_in _ (by omega)];omega
  have hcell:w.cell? ⟨g,m,none⟩=some (.int .i64 x.last):=by
    rw [hR.own.cellAt m (by omega)]
    rw [List.getElem?_map,hlast];rfl
  obtain ⟨row,hrow⟩: ∃row,x.last=row:=⟨_,rfl⟩
  rw [hrow] at hcell
  have HROW:=Lib.hid hrow;have HDL:=Lib.hid hdl;have HTK:=Lib.hid htk;have HM:=Lib.hid hm
  clear hR hr1 hr hlast hdl htk hrow hne
  go_enter Tryz.func99,Tryz.ntmps99
  have hA:=hT.hA
  have kt:=hT.blk
  have o_kt:=hT.no
  have c_kt:=f3 kt;have l_ktw:=lt_of kt
  rw [hm] at kt c_kt
  have hcapm:m+1≤cap:=by obtain ⟨cur, -, -,h1, -⟩:=own_parts HR.out.own;rw [HM.out] at h1;exact h1
  go_wp2_with fail
  refine wg fun V hV_V=> ?_
  have hF:=Fr.refl ((oneX tb)) O w
  refine nef1 hV_V hA hF kt ?_;clear hA hF kt c_kt;intro z_V hA hF kt c_kt
  clear hV_V
  refine dr (fun v=>(v.cell? ⟨tb,0,none⟩=V.cell? ⟨tb,0,none⟩)∧(v.cell? ⟨tb,6,none⟩=V.cell? ⟨tb,6,none⟩)∧(V.heap.size≤v.heap.size)∧True) ⟨rfl,rfl,Nat.le_refl _,trivial⟩ fun Vd hV_Vd hHeld=> ?_
  have v_kt:=c_kt.1
  refine nef1 hV_Vd hA hF kt ?_;clear hA hF kt c_kt;intro z_Vd hA hF kt c_kt
  clear hV_Vd
  refine ta 0 hHeld ?_
  refine ta 1 hHeld ?_
  refine ta 2 hHeld ?_
  refine ta 3 hHeld ?_
  refine ta 4 hHeld ?_
  refine ta 5 hHeld ?_
  refine ta 6 hHeld ?_
  refine ta 7 hHeld ?_
  refine ta 8 hHeld ?_
  refine ta 9 hHeld ?_
  refine rd 10 rfl fun K hK=> ?_
  go_simp
  try simp only [IntWalk.i64_left]
  refine wC (wDelete_calls _ _ x.p.wave row r1 (by rw [←HROW.out];exact HR1.out) _ hA) fun W O1 hA_W hf_W=> ?_
  refine wif1 hf_W hF kt o_kt ?_;clear hA hF kt o_kt c_kt hf_W;intro z_W hF kt c_kt o_kt;have hA:=hA_W;clear hA_W
  refine ho hK ⟨vo c_kt v_kt 0,vo c_kt v_kt 6,by omega,trivial⟩ fun hHeld=> ?_
  clear hK K
  refine ta 11 hHeld ?_
  refine ta 12 hHeld ?_
  refine ta 13 hHeld ?_
  refine rd 14 rfl fun K hK=> ?_
  go_simp
  refine ho hK hHeld fun hHeld=> ?_
  clear hK K
  refine rd 15 rfl fun K hK=> ?_
  go_simp
  refine ho hK hHeld fun hHeld=> ?_
  clear hK K
  refine wd ?_
  go_wp2_with fail
  refine cg fun V2 hV_V2=> ?_
  refine nef1 hV_V2 hA hF kt ?_;clear hA hF kt c_kt;intro z_V2 hA hF kt c_kt
  clear hV_V2
  obtain ⟨⟨e1,y1⟩,hy1⟩: ∃p,x.less.swap 0 r1=p:=⟨_,rfl⟩
  have hrr:=HRR.out
  rw [hy1] at hrr
  dsimp only at hrr
  have hrw1:y1.rows=x.rows.dropLast:=by have:=(swap_rows x.less 0 r1).1;rw [hy1] at this;exact this
  have hrl1:y1.rows.length=m:=by rw [hrw1];exact HDL.out
  have hc1:=cSwap_calls (A:=some ⟨g,0,none⟩) (cap:=cap) x.less 0 (by omega) r1 _ ⟨hA,(by
    show _=some (Obj.cells #[ap, .int .i64 x.src, .int .i64 x.id, .int .i64 x.length, .int .i64 x.place, .slice (some ⟨g,0,none⟩) x.rows.dropLast.length cap, .int .i64 x.p.wave, .int .i64 x.p.marks, .int .i64 x.p.spots, .int .i64 x.p.table, .bool x.owns, .bool x.over, .int .i64 x.root] 132 (0,0))
    rw [HDL.out];exact kt),o_kt⟩
  rw [hy1] at hc1
  refine tC (hc1) fun W2 O2 hT hf=> ?_
  refine ti0 hT.hA hT.blk hT.no hf hF ?_;clear hA hF kt c_kt o_kt hT hf;intro z_W2 hA hF kt c_kt o_kt
  by_cases h0:e1=0
  · subst h0
    rw [if_pos rfl] at hrr
    obtain ⟨q,hq,hrr⟩:=Option.bind_eq_some_iff.1 hrr
    rw [HROW.out] at hq hrr
    have HQ:=Lib.hid hq;have Hrr0:=Lib.hid hrr
    have HRW1:=Lib.hid hrw1
    clear hq hrr hy1 HRR hrl1 hrw1
    go_wp2_with fail
    refine wg fun V3 hV_V3=> ?_
    refine nef1 hV_V3 hA hF kt ?_;clear hA hF kt c_kt;intro z_V3 hA hF kt c_kt
    clear hV_V3
    refine dr (fun v=>Sm v V3 (tb)∧(V3.heap.size≤v.heap.size)∧AP v ap (y1).s O2) ⟨fun _=>rfl,Nat.le_refl _,hA.drew⟩ fun V3d hV_V3d hHeld=> ?_
    have v_kt:=c_kt.1
    refine nef1 hV_V3d hA hF kt ?_;clear hA hF kt c_kt;intro z_V3d hA hF kt c_kt
    clear hV_V3d
    refine ta 0 hHeld ?_
    refine ta 1 hHeld ?_
    refine ta 2 hHeld ?_
    refine ta 3 hHeld ?_
    refine ta 4 hHeld ?_
    refine ta 5 hHeld ?_
    refine ta 6 hHeld ?_
    refine ta 7 hHeld ?_
    refine ta 8 hHeld ?_
    refine ta 9 hHeld ?_
    refine rd 10 rfl fun K hK=> ?_
    go_simp
    try simp only [IntWalk.i64_left]
    refine rC (bGet_calls y1.p.marks row q HQ.out _ hA) fun W3 hb_W3=> ?_
    refine bef1 hb_W3 hA hF kt ?_;clear hb_W3 hA hF kt c_kt;intro z_W3 hA hF kt c_kt
    refine ho hK ⟨vv c_kt v_kt,by omega,hA⟩ fun hHeld=> ?_
    clear hK K
    refine ta 11 hHeld ?_
    refine ta 12 hHeld ?_
    refine ta 13 hHeld ?_
    refine rd 14 rfl fun K hK=> ?_
    go_simp
    refine ho hK hHeld fun hHeld=> ?_
    clear hK K
    refine rd 15 rfl fun K hK=> ?_
    go_simp
    refine ho hK hHeld fun hHeld=> ?_
    clear hK K
    refine wd ?_
    obtain ⟨q1,q2⟩:=q
    cases q1 with
    | false=>
      have hrr:=Hrr0.out
      rw [if_neg Bool.false_ne_true] at hrr
      obtain ⟨r3,hr3,hrr⟩:=Option.map_eq_some_iff.1 hrr
      have H3:=Lib.hid hr3;have Hrr:=Lib.hid hrr
      clear hr3 hrr Hrr0
      go_wp2_with fail
      refine wg fun V6 hV_V6=> ?_
      refine nef1 hV_V6 hA hF kt ?_;clear hA hF kt c_kt;intro z_V6 hA hF kt c_kt
      clear hV_V6
      refine dr (fun v=>(v.cell? ⟨tb,0,none⟩=V6.cell? ⟨tb,0,none⟩)∧(v.cell? ⟨tb,7,none⟩=V6.cell? ⟨tb,7,none⟩)∧(V6.heap.size≤v.heap.size)∧True) ⟨rfl,rfl,Nat.le_refl _,trivial⟩ fun V6d hV_V6d hHeld=> ?_
      have v_kt:=c_kt.1
      refine nef1 hV_V6d hA hF kt ?_;clear hA hF kt c_kt;intro z_V6d hA hF kt c_kt
      clear hV_V6d
      refine ta 0 hHeld ?_
      refine ta 1 hHeld ?_
      refine ta 2 hHeld ?_
      refine ta 3 hHeld ?_
      refine ta 4 hHeld ?_
      refine ta 5 hHeld ?_
      refine ta 6 hHeld ?_
      refine ta 7 hHeld ?_
      refine ta 8 hHeld ?_
      refine ta 9 hHeld ?_
      refine rd 10 rfl fun K hK=> ?_
      go_simp
      try simp only [IntWalk.i64_left]
      refine wC (bDelete_calls y1.p.marks row r3 H3.out _ hA) fun W6 O6 hA_W6 hf_W6=> ?_
      refine wif1 hf_W6 hF kt o_kt ?_;clear hA hF kt o_kt c_kt hf_W6;intro z_W6 hF kt c_kt o_kt;have hA:=hA_W6;clear hA_W6
      refine ho hK ⟨vo c_kt v_kt 0,vo c_kt v_kt 7,by omega,trivial⟩ fun hHeld=> ?_
      clear hK K
      refine ta 11 hHeld ?_
      refine ta 12 hHeld ?_
      refine ta 13 hHeld ?_
      refine rd 14 rfl fun K hK=> ?_
      go_simp
      refine ho hK hHeld fun hHeld=> ?_
      clear hK K
      refine rd 15 rfl fun K hK=> ?_
      go_simp
      refine ho hK hHeld fun hHeld=> ?_
      clear hK K
      refine wd ?_
      go_wp2_with fail
      refine cg fun V7 hV_V7=> ?_
      refine nef1 hV_V7 hA hF kt ?_;clear hA hF kt c_kt;intro z_V7 hA hF kt c_kt
      clear hV_V7
      obtain ⟨⟨e3,y3⟩,hy3⟩: ∃p,y1.swap 1 r3=p:=⟨_,rfl⟩
      have hrw3:y3.rows=y1.rows:=by have:=(swap_rows y1 1 r3).1;rw [hy3] at this;exact this
      have hc3:=cSwap_calls y1 1 (by omega) r3 _ ⟨hA,kt,o_kt⟩
      rw [hy3] at hc3
      refine tC (hc3) fun W7 O7 hT hf=> ?_
      refine ti0 hT.hA hT.blk hT.no hf hF ?_;clear hA hF kt c_kt o_kt hT hf;intro z_W7 hA hF kt c_kt o_kt
      go_wp2_with fail
      go_ret
      have hrr:=Hrr.out
      subst hrr
      rw [hy3]
      exact ⟨rfl,didr_less HR.out ⟨hA,kt,o_kt⟩ hF (by rw [hrw3,HRW1.out,HTK.out]) (by omega)⟩
    | true=>
      have hrr:=Hrr0.out
      rw [if_pos rfl] at hrr
      obtain ⟨j,hj,hrr⟩:=Option.bind_eq_some_iff.1 hrr
      obtain ⟨r2,hr2,hrr⟩:=Option.bind_eq_some_iff.1 hrr
      have HJ:=Lib.hid hj;have HR2:=Lib.hid hr2;have Hrr1:=Lib.hid hrr
      clear hj hr2 hrr Hrr0
      go_wp2_with fail
      refine wg fun V4 hV_V4=> ?_
      refine nef1 hV_V4 hA hF kt ?_;clear hA hF kt c_kt;intro z_V4 hA hF kt c_kt
      clear hV_V4
      refine dr (fun v=>(v.cell? ⟨tb,0,none⟩=V4.cell? ⟨tb,0,none⟩)∧(v.cell? ⟨tb,7,none⟩=V4.cell? ⟨tb,7,none⟩)∧(v.cell? ⟨tb,8,none⟩=V4.cell? ⟨tb,8,none⟩)∧(V4.heap.size≤v.heap.size)∧True) ⟨rfl,rfl,rfl,Nat.le_refl _,trivial⟩ fun V4d hV_V4d hHeld=> ?_
      have v_kt:=c_kt.1
      refine nef1 hV_V4d hA hF kt ?_;clear hA hF kt c_kt;intro z_V4d hA hF kt c_kt
      clear hV_V4d
      refine ta 0 hHeld ?_
      refine ta 1 hHeld ?_
      refine ta 2 hHeld ?_
      refine ta 3 hHeld ?_
      refine ta 4 hHeld ?_
      refine ta 5 hHeld ?_
      refine ta 6 hHeld ?_
      refine ta 7 hHeld ?_
      refine ta 8 hHeld ?_
      refine ta 9 hHeld ?_
      refine ta 10 hHeld ?_
      refine ta 11 hHeld ?_
      refine ta 12 hHeld ?_
      refine ta 13 hHeld ?_
      refine ta 14 hHeld ?_
      refine ta 15 hHeld ?_
      refine ta 16 hHeld ?_
      refine ta 17 hHeld ?_
      refine ta 18 hHeld ?_
      refine rd 19 rfl fun K hK=> ?_
      go_simp
      try simp only [IntWalk.i64_left]
      refine rC (bRank_calls y1.p.marks row j HJ.out _ hA) fun W4 hb_W4=> ?_
      refine bef1 hb_W4 hA hF kt ?_;clear hb_W4 hA hF kt c_kt;intro z_W4 hA hF kt c_kt
      refine ho hK ⟨vo c_kt v_kt 0,vo c_kt v_kt 7,vo c_kt v_kt 8,by omega,trivial⟩ fun hHeld=> ?_
      clear hK K
      refine rd 20 rfl fun K hK=> ?_
      go_simp
      try simp only [IntWalk.i64_left]
      refine wC (lDelete_calls y1.p.spots j r2 HR2.out _ hA) fun W5 O5 hA_W5 hf_W5=> ?_
      refine wif1 hf_W5 hF kt o_kt ?_;clear hA hF kt o_kt c_kt hf_W5;intro z_W5 hF kt c_kt o_kt;have hA:=hA_W5;clear hA_W5
      refine ho hK ⟨vo c_kt v_kt 0,vo c_kt v_kt 7,vo c_kt v_kt 8,by omega,trivial⟩ fun hHeld=> ?_
      clear hK K
      refine ta 21 hHeld ?_
      refine ta 22 hHeld ?_
      refine ta 23 hHeld ?_
      refine rd 24 rfl fun K hK=> ?_
      go_simp
      refine ho hK hHeld fun hHeld=> ?_
      clear hK K
      refine rd 25 rfl fun K hK=> ?_
      go_simp
      refine ho hK hHeld fun hHeld=> ?_
      clear hK K
      refine wd ?_
      go_wp2_with fail
      refine cg fun V5 hV_V5=> ?_
      refine nef1 hV_V5 hA hF kt ?_;clear hA hF kt c_kt;intro z_V5 hA hF kt c_kt
      clear hV_V5
      obtain ⟨⟨e2,y2⟩,hy2⟩: ∃p,y1.swap 2 r2=p:=⟨_,rfl⟩
      have hrr:=Hrr1.out
      rw [hy2] at hrr
      dsimp only at hrr
      have hrw2:y2.rows=y1.rows:=by have:=(swap_rows y1 2 r2).1;rw [hy2] at this;exact this
      have hc2:=cSwap_calls y1 2 (by omega) r2 _ ⟨hA,kt,o_kt⟩
      rw [hy2] at hc2
      have HRW2:=Lib.hid hrw2
      clear hrw2 Hrr1
      refine tC (hc2) fun W8 O8 hT hf=> ?_
      refine ti0 hT.hA hT.blk hT.no hf hF ?_;clear hA hF kt c_kt o_kt hT hf;intro z_W8 hA hF kt c_kt o_kt
      by_cases h0:e2=0
      · subst h0
        rw [if_pos rfl] at hrr
        obtain ⟨r3,hr3,hrr⟩:=Option.map_eq_some_iff.1 hrr
        have H3:=Lib.hid hr3;have Hrr:=Lib.hid hrr
        clear hr3 hrr hy2
        go_wp2_with fail
        refine wg fun V6 hV_V6=> ?_
        refine nef1 hV_V6 hA hF kt ?_;clear hA hF kt c_kt;intro z_V6 hA hF kt c_kt
        clear hV_V6
        refine dr (fun v=>(v.cell? ⟨tb,0,none⟩=V6.cell? ⟨tb,0,none⟩)∧(v.cell? ⟨tb,7,none⟩=V6.cell? ⟨tb,7,none⟩)∧(V6.heap.size≤v.heap.size)∧True) ⟨rfl,rfl,Nat.le_refl _,trivial⟩ fun V6d hV_V6d hHeld=> ?_
        have v_kt:=c_kt.1
        refine nef1 hV_V6d hA hF kt ?_;clear hA hF kt c_kt;intro z_V6d hA hF kt c_kt
        clear hV_V6d
        refine ta 0 hHeld ?_
        refine ta 1 hHeld ?_
        refine ta 2 hHeld ?_
        refine ta 3 hHeld ?_
        refine ta 4 hHeld ?_
        refine ta 5 hHeld ?_
        refine ta 6 hHeld ?_
        refine ta 7 hHeld ?_
        refine ta 8 hHeld ?_
        refine ta 9 hHeld ?_
        refine rd 10 rfl fun K hK=> ?_
        go_simp
        try simp only [IntWalk.i64_left]
        refine wC (bDelete_calls y2.p.marks row r3 H3.out _ hA) fun W6 O6 hA_W6 hf_W6=> ?_
        refine wif1 hf_W6 hF kt o_kt ?_;clear hA hF kt o_kt c_kt hf_W6;intro z_W6 hF kt c_kt o_kt;have hA:=hA_W6;clear hA_W6
        refine ho hK ⟨vo c_kt v_kt 0,vo c_kt v_kt 7,by omega,trivial⟩ fun hHeld=> ?_
        clear hK K
        refine ta 11 hHeld ?_
        refine ta 12 hHeld ?_
        refine ta 13 hHeld ?_
        refine rd 14 rfl fun K hK=> ?_
        go_simp
        refine ho hK hHeld fun hHeld=> ?_
        clear hK K
        refine rd 15 rfl fun K hK=> ?_
        go_simp
        refine ho hK hHeld fun hHeld=> ?_
        clear hK K
        refine wd ?_
        go_wp2_with fail
        refine cg fun V7 hV_V7=> ?_
        refine nef1 hV_V7 hA hF kt ?_;clear hA hF kt c_kt;intro z_V7 hA hF kt c_kt
        clear hV_V7
        obtain ⟨⟨e3,y3⟩,hy3⟩: ∃p,y2.swap 1 r3=p:=⟨_,rfl⟩
        have hrw3:y3.rows=y2.rows:=by have:=(swap_rows y2 1 r3).1;rw [hy3] at this;exact this
        have hc3:=cSwap_calls y2 1 (by omega) r3 _ ⟨hA,kt,o_kt⟩
        rw [hy3] at hc3
        refine tC (hc3) fun W7 O7 hT hf=> ?_
        refine ti0 hT.hA hT.blk hT.no hf hF ?_;clear hA hF kt c_kt o_kt hT hf;intro z_W7 hA hF kt c_kt o_kt
        go_wp2_with fail
        go_ret
        have hrr:=Hrr.out
        subst hrr
        rw [hy3]
        exact ⟨rfl,didr_less HR.out ⟨hA,kt,o_kt⟩ hF (by rw [hrw3,HRW2.out,HRW1.out,HTK.out]) (by omega)⟩
      · have d1:(e2 !=0)=true:=by simpa using h0
        rw [if_neg h0] at hrr
        obtain rfl:=Option.some.inj hrr
        clear hrr hy2
        go_wp2_with fail
        go_ret
        exact ⟨rfl,didr_less HR.out ⟨hA,kt,o_kt⟩ hF (by rw [HRW2.out,HRW1.out,HTK.out]) (by omega)⟩
  · have d1:(e1 !=0)=true:=by simpa using h0
    rw [if_neg h0] at hrr
    obtain rfl:=Option.some.inj hrr
    clear hrr hy1 HRR
    go_wp2_with fail
    go_ret
    exact ⟨rfl,didr_less HR.out ⟨hA,kt,o_kt⟩ hF (by rw [hrw1,HTK.out]) (by omega)⟩
end
section
open Go.RowKit
structure CtOk (x:Ct):Prop where
  rows:x.rows.length≤500
  tab:x.owns=true→ ∀l,lAll x.s x.p.table=some l→l.length≤50000
end
section
open Go.RowKit Go.Sort
attribute [local go_sem ↓] Go.wp_at_zero Go.wp_at_succ
attribute [local go_sem] lt_s2 lt_s3 lt_s4 str_len
variable {ap : Value} {O : Nat → Prop} {tb : Nat} {A : Option Addr} {cap : Nat}
def Exit.two (l0 l1:Nat) (J0 J1:Act→World→Prop) (Q:Exit→Act→World→Prop):Exit→Act→World→Prop
  | .goto l',a,w=>(l'=l0∧J0 a w)∨(l'=l1∧J1 a w)
  | e,a,w=>Q e a w
theorem wp_scope_two {P : Program} {a : Act} {w : World} {Q : Exit → Act → World → Prop} {c r0 r1 : Code} (l0 l1 : Nat) (J0 J1 : Act → World → Prop) (hf0 : findLabel c l0 = some (Code.skip.seq r0)) (hf1 : findLabel c l1 = some (Code.skip.seq r1))
    (first:c.wp P (Exit.two l0 l1 J0 J1 Q) a w) (pass0: ∀a w,J0 a w→r0.wp P (Exit.noGoto Q) a w) (pass1: ∀a w,J1 a w→r1.wp P (Exit.noGoto Q) a w):(Code.scope c).wp P Q a w:=by
  intro b k cs
  have key: ∀(l:Nat) (r:Code),findLabel c l=some (Code.skip.seq r)→ ∀a w,r.wp P (Exit.noGoto Q) a w→ ∃rest,gotoIn l (.inScope c::k)=some rest∧ ∃e a' w',Q e a' w'∧Arrives P (lone (b.at a rest) cs w) b k cs e a' w':=by
    intro l r hf a w hr
    refine ⟨.code (Code.skip.seq r):: .inScope c::k,by simp [gotoIn,hf],?_⟩
    have hs:(Code.skip.seq r).wp P (Exit.noGoto Q) a w:=wp_seq_k fun K hK=>wp_skip (hK _ _ hr)
    obtain ⟨e,a₁,w₁,hq,harr⟩:=hs b (.inScope c::k) cs
    cases e with
    | normal=>exact ⟨.normal,a₁,w₁,hq,Steps.trans harr (.one step_inScope)⟩
    | exit id=>exact ⟨.exit id,a₁,w₁,hq,fun k' hk=>harr k' (by simp [exitTo,hk])⟩
    | goto l'=>exact hq.elim
    | ret=>exact ⟨_,a₁,w₁,hq,harr⟩
    | panic ch=>exact ⟨_,a₁,w₁,hq,harr⟩
    | outgrown=>exact ⟨_,a₁,w₁,hq,harr⟩
  obtain ⟨e,a₁,w₁,hq,harr⟩:=first b (.inScope c::k) cs
  cases e with
  | normal=>exact ⟨.normal,a₁,w₁,hq, .head step_scope (Steps.trans harr (.one step_inScope))⟩
  | exit id=>exact ⟨.exit id,a₁,w₁,hq,fun k' hk=> .head step_scope (harr k' (by simp [exitTo,hk]))⟩
  | goto l'=>
    rcases hq with ⟨rfl,hJ⟩|⟨rfl,hJ⟩
    · obtain ⟨rest,hg,e₂,a₂,w₂,hq₂,harr₂⟩:=key _ _ hf0 a₁ w₁ (pass0 _ _ hJ)
      exact ⟨e₂,a₂,w₂,hq₂, .of_steps (.head step_scope (harr _ hg)) harr₂⟩
    · obtain ⟨rest,hg,e₂,a₂,w₂,hq₂,harr₂⟩:=key _ _ hf1 a₁ w₁ (pass1 _ _ hJ)
      exact ⟨e₂,a₂,w₂,hq₂, .of_steps (.head step_scope (harr _ hg)) harr₂⟩
  | ret=>exact ⟨_,a₁,w₁,hq, .of_steps (.one step_scope) harr⟩
  | panic ch=>exact ⟨_,a₁,w₁,hq, .of_steps (.one step_scope) harr⟩
  | outgrown=>exact ⟨_,a₁,w₁,hq, .of_steps (.one step_scope) harr⟩
theorem cStep_calls (x : Ct) (hok : CtOk x) (r : Bool × Int × Ct) (hr : x.step = some r) (w : World) (hT : CB w tb ap x O A cap) (hR : RB w tb x.rows O A cap) :
    Calls Tryz.prog 47 #[.pointer (some ⟨tb,0,none⟩)] w fun e w'=>e= .returned (.tuple #[.bool r.1, .int .i64 r.2.1])∧DidR tb ap r.2.2 O A w w':=by
  have Hr:=Lib.hid hr;have HR:=Lib.hid hR;have HOK:=Lib.hid hok
  clear hr hR hok
  go_enter Tryz.func47,Tryz.ntmps47
  go_wp2_with fail
  refine wp_scope_two 0 1 (fun a' wr=>(DidR tb ap r.2.2 O A w wr∧Hid (r.1=false∧r.2.1=0))∧ ∃u1 u2 u3 u4 u5 u6 u7 u8 u9 u10 u11 u12 u13 u14 u15 u16 u17 u18 u19 u20 u21 u22 u23 u24 u25 u26 u27 u28 u29 u30 u31 u32 u33 u34 u35 u36 u37 u38 u39 u40 u41 u42 u43 u44 u45 u46 u47 u48 u49 u50 u51 u52 u53 u54 u55 u56 u57 u58 u59 u60 u61 u62 u63 u64 u65 u66 u67 u68 u69 u70 u71 u72 u73 u74 u75 u76 u77 u78:Value,a'={tmps:= #[(.pointer (some ⟨tb,0,none⟩):Value),u1,u2,u3,u4,u5,u6,u7,u8,u9,u10,u11,u12,u13,u14,u15,u16,u17,u18,u19,u20,u21,u22,u23,u24,u25,u26,u27,u28,u29,u30,u31,u32,u33,u34,u35,u36,u37,u38,u39,u40,u41,u42,u43,u44,u45,u46,u47,u48,u49,u50,u51,u52,u53,u54,u55,u56,u57,u58,u59,u60,u61,u62,u63,u64,u65,u66,u67,u68,u69,u70,u71,u72,u73,u74,u75,u76,u77,u78],defers:=[]}) (fun a' wr=> ∃e x1 O1 A1 cap1,(CB wr tb ap x1 O1 A1 cap1∧RB wr tb x1.rows O1 A1 cap1∧Fr (rX tb A) O O1 w wr∧Hid ((∀a',A1=some a'→(∃a,A=some a∧a.block=a'.block)∨w.heap.size≤a'.block)∧(true,e,x1.stop)=r))∧ ∃u1 u2 u3 u4 u6 u7 u8 u9 u10 u11 u12 u13 u14 u15 u16 u17 u18 u19 u20 u21 u22 u23 u24 u25 u26 u27 u28 u29 u30 u31 u32 u33 u34 u35 u36 u37 u38 u39 u40 u41 u42 u43 u44 u45 u46 u47 u48 u49 u50 u51 u52 u53 u54 u55 u56 u57 u58 u59 u60 u61 u62 u63 u64 u65 u66 u67 u68 u69 u70 u71 u72 u73 u74 u75 u76 u77 u78:Value,a'={tmps:= #[(.pointer (some ⟨tb,0,none⟩):Value),u1,u2,u3,u4,(.int .i64 e:Value),u6,u7,u8,u9,u10,u11,u12,u13,u14,u15,u16,u17,u18,u19,u20,u21,u22,u23,u24,u25,u26,u27,u28,u29,u30,u31,u32,u33,u34,u35,u36,u37,u38,u39,u40,u41,u42,u43,u44,u45,u46,u47,u48,u49,u50,u51,u52,u53,u54,u55,u56,u57,u58,u59,u60,u61,u62,u63,u64,u65,u66,u67,u68,u69,u70,u71,u72,u73,u74,u75,u76,u77,u78],defers:=[]}) (by rfl) (by rfl) ?first ?pass0 ?pass1
  case pass0=>
    rintro a' wr ⟨⟨hD,hq⟩,u1,u2,u3,u4,u5,u6,u7,u8,u9,u10,u11,u12,u13,u14,u15,u16,u17,u18,u19,u20,u21,u22,u23,u24,u25,u26,u27,u28,u29,u30,u31,u32,u33,u34,u35,u36,u37,u38,u39,u40,u41,u42,u43,u44,u45,u46,u47,u48,u49,u50,u51,u52,u53,u54,u55,u56,u57,u58,u59,u60,u61,u62,u63,u64,u65,u66,u67,u68,u69,u70,u71,u72,u73,u74,u75,u76,u77,u78,rfl⟩
    obtain ⟨⟨q1,q2⟩,hq⟩:_∧True:=⟨hq.out,trivial⟩
    obtain ⟨ro,re,ry⟩:=r
    dsimp only at q1 q2 hD
    subst q1 q2
    go_wp2_with fail
    try simp only [Exit.noGoto]
    go_ret2
    exact ⟨rfl,hD⟩
  case pass1=>
    rintro a' wr ⟨e,x1,O1,A1,cap1,⟨hC,hR1,hF1,hq⟩,u1,u2,u3,u4,u6,u7,u8,u9,u10,u11,u12,u13,u14,u15,u16,u17,u18,u19,u20,u21,u22,u23,u24,u25,u26,u27,u28,u29,u30,u31,u32,u33,u34,u35,u36,u37,u38,u39,u40,u41,u42,u43,u44,u45,u46,u47,u48,u49,u50,u51,u52,u53,u54,u55,u56,u57,u58,u59,u60,u61,u62,u63,u64,u65,u66,u67,u68,u69,u70,u71,u72,u73,u74,u75,u76,u77,u78,rfl⟩
    obtain ⟨⟨q1,rfl⟩,hq⟩:_∧True:=⟨hq.out,trivial⟩
    have HD:=Lib.hid (⟨hR1,hF1,q1⟩:_∧_∧_)
    clear hR1 hF1 q1
    go_wp2_with fail
    refine (cStop_calls x1 _ hC).mono ?_
    rintro e2 W2 ⟨rfl,hD⟩
    have HD2:=Lib.hid (didr_trans HR.out HD.out.2.1 HD.out.2.2 (didr_of (x:=x1) HD.out.1 hD rfl))
    clear hD
    go_wp2_with fail
    try simp only [Exit.noGoto]
    go_ret2
    exact ⟨rfl,HD2.out⟩
  case first=>
    have hr:=Hr.out
    unfold Ct.step at hr
    have kt:=hT.blk
    cases hov:x.over with
    | true=>
      rw [hov,if_pos rfl] at hr
      cases hr
      rw [hov] at kt
      have c_kt:=f3 kt;have l_ktw:=lt_of kt
      go_wp2_with fail
      try simp only [Exit.two]
      go_ret2
      exact ⟨rfl,O,A,cap,hT,HR.out,Fr.refl _ _ _,fun a ha=> .inl ⟨a,ha,rfl⟩⟩
    | false=>
      rw [hov,if_neg (by decide)] at hr
      cases hb:x.owns with
      | false=>
        rw [hb,if_pos rfl] at hr
        obtain ⟨y,hy,rfl⟩:=Option.map_eq_some_iff.1 hr
        have HY:=Lib.hid hy
        clear hr hy Hr
        rw [hov,hb] at kt
        have c_kt:=f3 kt;have l_ktw:=lt_of kt
        go_wp2_with fail
        refine (cFind_calls x y HY.out HOK.out.rows _ hT HR.out).mono ?_
        rintro e1 W1 ⟨rfl,hD⟩
        have HD:=Lib.hid hD
        clear kt c_kt hD
        go_wp2_with fail
        go_step3
        refine .inl ⟨rfl,⟨HD.out,Lib.hid ⟨rfl,rfl⟩⟩,?_⟩
        exact ⟨_,_,_,_,_,_,_,_,_,_,_,_,_,_,_,_,_,_,_,_,_,_,_,_,_,_,_,_,_,_,_,_,_,_,_,_,_,_,_,_,_,_,_,_,_,_,_,_,_,_,_,_,_,_,_,_,_,_,_,_,_,_,_,_,_,_,_,_,_,_,_,_,_,_,_,_,_,_,rfl⟩
      | true=>
        rw [hb,if_neg (by decide)] at hr
        rw [hov,hb] at kt
        by_cases hp:x.rows=[]
        · rw [if_pos hp] at hr
          obtain ⟨r1,hr1,hre⟩:=Option.map_eq_some_iff.1 hr
          obtain ⟨l,hl⟩: ∃l,lAll x.s x.p.table=some l:=by
            cases h:lAll x.s x.p.table with
            | none=>unfold tCut tPlace at hr1;rw [h] at hr1;cases hr1
            | some l=>exact ⟨l,rfl⟩
          have HL:=Lib.hid hl;have HLL:=Lib.hid (HOK.out.tab hb l hl)
          have HR1:=Lib.hid hr1
          have hln:x.rows.length=0:=by rw [hp];rfl
          have HLN:=Lib.hid hln
          have hA:=hT.hA
          have o_kt:=hT.no
          rw [hln] at kt
          clear hr hr1 hl hln Hr hp
          have c_kt:=f3 kt;have l_ktw:=lt_of kt
          go_wp2_with fail
          refine wg fun V hV_V=> ?_
          have hF:=Fr.refl ((oneX tb)) O w
          refine nef1 hV_V hA hF kt ?_;clear hA hF kt c_kt;intro z_V hA hF kt c_kt
          clear hV_V
          refine dr (fun v=>(v.cell? ⟨tb,0,none⟩=V.cell? ⟨tb,0,none⟩)∧(v.cell? ⟨tb,2,none⟩=V.cell? ⟨tb,2,none⟩)∧(v.cell? ⟨tb,9,none⟩=V.cell? ⟨tb,9,none⟩)∧(V.heap.size≤v.heap.size)∧True) ⟨rfl,rfl,rfl,Nat.le_refl _,trivial⟩ fun Vd hV_Vd hHeld=> ?_
          have v_kt:=c_kt.1
          refine nef1 hV_Vd hA hF kt ?_;clear hA hF kt c_kt;intro z_Vd hA hF kt c_kt
          clear hV_Vd
          refine ta 0 hHeld ?_
          refine ta 1 hHeld ?_
          refine ta 2 hHeld ?_
          refine ta 3 hHeld ?_
          refine ta 4 hHeld ?_
          refine ta 5 hHeld ?_
          refine ta 6 hHeld ?_
          refine ta 7 hHeld ?_
          refine ta 8 hHeld ?_
          refine ta 9 hHeld ?_
          refine ta 10 hHeld ?_
          refine ta 11 hHeld ?_
          refine ta 12 hHeld ?_
          refine rd 13 rfl fun K hK=> ?_
          go_simp
          try simp only [IntWalk.i64_left]
          refine wC (tCutT_calls x.p.table x.id l HL.out HLL.out r1 HR1.out _ hA) fun W O1 hA_W hf_W=> ?_
          refine wif1 hf_W hF kt o_kt ?_;clear hA hF kt o_kt c_kt hf_W;intro z_W hF kt c_kt o_kt;have hA:=hA_W;clear hA_W
          refine ho hK ⟨vo c_kt v_kt 0,vo c_kt v_kt 2,vo c_kt v_kt 9,by omega,trivial⟩ fun hHeld=> ?_
          clear hK K
          refine ta 14 hHeld ?_
          refine ta 15 hHeld ?_
          refine ta 16 hHeld ?_
          refine rd 17 rfl fun K hK=> ?_
          go_simp
          refine ho hK hHeld fun hHeld=> ?_
          clear hK K
          refine rd 18 rfl fun K hK=> ?_
          go_simp
          refine ho hK hHeld fun hHeld=> ?_
          clear hK K
          refine wd ?_
          go_wp2_with fail
          refine cg fun V2 hV_V2=> ?_
          refine nef1 hV_V2 hA hF kt ?_;clear hA hF kt c_kt;intro z_V2 hA hF kt c_kt
          clear hV_V2
          obtain ⟨⟨e1,y1⟩,hy1⟩: ∃p,x.swap 3 r1=p:=⟨_,rfl⟩
          have hrw1:y1.rows=x.rows:=by have:=(swap_rows x 3 r1).1;rw [hy1] at this;exact this
          have hov1:y1.over=false∧y1.owns=true:=by
            have e:(x.swap 3 r1).2.over=x.over∧(x.swap 3 r1).2.owns=x.owns:=by unfold Ct.swap;split<;>exact ⟨rfl,rfl⟩
            rw [hy1] at e;exact ⟨e.1.trans hov,e.2.trans hb⟩
          have hc1:=cSwap_calls (A:=A) (cap:=cap) x 3 (by omega) r1 _ ⟨hA,(by
            show _=some (Obj.cells #[ap, .int .i64 x.src, .int .i64 x.id, .int .i64 x.length, .int .i64 x.place, .slice A x.rows.length cap, .int .i64 x.p.wave, .int .i64 x.p.marks, .int .i64 x.p.spots, .int .i64 x.p.table, .bool x.owns, .bool x.over, .int .i64 x.root] 132 (0,0))
            rw [HLN.out,hov,hb];exact kt),o_kt⟩
          rw [hy1] at hc1 hre
          have HRE:=Lib.hid hre
          have HRW1:=Lib.hid hrw1
          have HOV1:=Lib.hid hov1
          clear hrw1 hov1 hy1 hre
          refine tC (hc1) fun W2 O2 hT hf=> ?_
          refine ti0 hT.hA hT.blk hT.no hf hF ?_;clear hA hF kt c_kt o_kt hT hf;intro z_W2 hA hF kt c_kt o_kt
          have hRn:=HR.out
          by_cases h0:e1=0
          · subst h0
            have hmade:Ct.made (0,y1)=(true,(vMake y1.s y1.p).2.1,({y1 with s:=(vMake y1.s y1.p).2.2,root:=(vMake y1.s y1.p).1}:Ct).stop):=by unfold Ct.made;rw [if_pos rfl]
            have hre:=HRE.out
            rw [hmade] at hre
            have HMD:=Lib.hid hre
            clear hmade hre HRE
            go_wp2_with fail
            refine wg fun V3 hV_V3=> ?_
            refine nef1 hV_V3 hA hF kt ?_;clear hA hF kt c_kt;intro z_V3 hA hF kt c_kt
            clear hV_V3
            refine dr (fun v=>(v.cell? ⟨tb,0,none⟩=V3.cell? ⟨tb,0,none⟩)∧(v.cell? ⟨tb,6,none⟩=V3.cell? ⟨tb,6,none⟩)∧(v.cell? ⟨tb,7,none⟩=V3.cell? ⟨tb,7,none⟩)∧(v.cell? ⟨tb,8,none⟩=V3.cell? ⟨tb,8,none⟩)∧(v.cell? ⟨tb,9,none⟩=V3.cell? ⟨tb,9,none⟩)∧(V3.heap.size≤v.heap.size)∧True) ⟨rfl,rfl,rfl,rfl,rfl,Nat.le_refl _,trivial⟩ fun V3d hV_V3d hHeld=> ?_
            have v_kt:=c_kt.1
            refine nef1 hV_V3d hA hF kt ?_;clear hA hF kt c_kt;intro z_V3d hA hF kt c_kt
            clear hV_V3d
            refine ta 0 hHeld ?_
            refine ta 1 hHeld ?_
            refine ta 2 hHeld ?_
            refine ta 3 hHeld ?_
            refine ta 4 hHeld ?_
            refine ta 5 hHeld ?_
            refine ta 6 hHeld ?_
            refine ta 7 hHeld ?_
            refine ta 8 hHeld ?_
            refine rd 9 rfl fun K hK=> ?_
            go_simp
            try simp only [IntWalk.i64_left]
            refine wC (vMake_calls y1.p _ hA) fun W3 O3 hA_W3 hf_W3=> ?_
            refine wif1 hf_W3 hF kt o_kt ?_;clear hA hF kt o_kt c_kt hf_W3;intro z_W3 hF kt c_kt o_kt;have hA:=hA_W3;clear hA_W3
            refine ho hK ⟨vo c_kt v_kt 0,vo c_kt v_kt 6,vo c_kt v_kt 7,vo c_kt v_kt 8,vo c_kt v_kt 9,by omega,trivial⟩ fun hHeld=> ?_
            clear hK K
            refine ta 10 hHeld ?_
            refine ta 11 hHeld ?_
            refine ta 12 hHeld ?_
            refine ta 13 hHeld ?_
            refine ta 14 hHeld ?_
            refine rd 15 rfl fun K hK=> ?_
            go_simp
            refine ga (K:=K) fun D3 hV_D3=> ?_
            refine nef1 hV_D3 hA hF kt ?_;clear hA hF kt c_kt;intro z_D3 hA hF kt c_kt
            clear hV_D3
            refine ho hK ⟨vo c_kt v_kt 0,vo c_kt v_kt 6,vo c_kt v_kt 7,vo c_kt v_kt 8,vo c_kt v_kt 9,by omega,trivial⟩ fun hHeld=> ?_
            clear hK K
            refine rd 16 rfl fun K hK=> ?_
            go_simp
            refine ho hK hHeld fun hHeld=> ?_
            clear hK K
            refine wd ?_
            go_wp2_with fail
            go_step3
            go_wp2_with fail
            refine cg fun V4 hV_V4=> ?_
            refine nef1 hV_V4 hA hF kt ?_;clear hA hF kt c_kt;intro z_V4 hA hF kt c_kt
            clear hV_V4
            refine (cStop_calls (A:=A) (cap:=cap) {y1 with s:=(vMake y1.s y1.p).2.2,root:=(vMake y1.s y1.p).1} _ ⟨hA,kt,o_kt⟩).mono ?_
            rintro e5 W5 ⟨rfl,O5,hC5,hF5⟩
            have HD:=Lib.hid (didr_of (x:=x) HR.out ⟨O5,hC5,hF.trans hF5⟩ HRW1.out)
            clear hC5 hF5 hA hF kt c_kt
            go_wp2_with fail
            try simp only [Exit.two]
            go_ret2
            have hre:=HMD.out
            subst hre
            exact ⟨rfl,HD.out⟩
          · have d1:(e1==0)=false:=by simpa using h0
            have hmade:Ct.made (e1,y1)=(true,e1,y1.stop):=by unfold Ct.made;rw [if_neg h0]
            have hre:=HRE.out
            rw [hmade] at hre
            have HMD:=Lib.hid hre
            clear hmade hre HRE
            go_wp2_with fail
            go_step3
            go_wp2_with fail
            refine cg fun V4 hV_V4=> ?_
            refine nef1 hV_V4 hA hF kt ?_;clear hA hF kt c_kt;intro z_V4 hA hF kt c_kt
            clear hV_V4
            refine (cStop_calls (A:=A) (cap:=cap) y1 _ ⟨hA,kt,o_kt⟩).mono ?_
            rintro e5 W5 ⟨rfl,O5,hC5,hF5⟩
            have HD:=Lib.hid (didr_of (x:=x) HR.out ⟨O5,hC5,hF.trans hF5⟩ HRW1.out)
            clear hC5 hF5 hA hF kt c_kt
            go_wp2_with fail
            try simp only [Exit.two]
            go_ret2
            have hre:=HMD.out
            subst hre
            exact ⟨rfl,HD.out⟩
        · rw [if_neg hp] at hr
          obtain ⟨r1,hr1,rfl⟩:=Option.map_eq_some_iff.1 hr
          have HR1:=Lib.hid hr1
          have hln:decide (0<(x.rows.length:Int))=true:=by have:=List.length_pos_iff.2 hp;simp;omega
          have hpos:0<x.rows.length:=List.length_pos_iff.2 hp
          have HP:=Lib.hid hp
          clear hr hr1 Hr hp
          have c_kt:=f3 kt;have l_ktw:=lt_of kt
          go_wp2_with fail
          refine (cTake_calls x r1 HR1.out HP.out HOK.out.rows _ hT HR.out).mono ?_
          rintro e1 W1 ⟨rfl,hD⟩
          have HD:=Lib.hid hD
          clear kt c_kt hD hln hpos
          by_cases h0:r1.1=0
          · have d1:(r1.1 !=0)=false:=by simp [h0]
            have hask:Ct.asked r1=(false,0,r1.2):=by unfold Ct.asked;rw [if_pos h0]
            have HAS:=Lib.hid hask
            go_wp2_with fail
            go_step3
            refine .inl ⟨rfl,(by rw [HAS.out];exact ⟨HD.out,Lib.hid ⟨rfl,rfl⟩⟩),?_⟩
            exact ⟨_,_,_,_,_,_,_,_,_,_,_,_,_,_,_,_,_,_,_,_,_,_,_,_,_,_,_,_,_,_,_,_,_,_,_,_,_,_,_,_,_,_,_,_,_,_,_,_,_,_,_,_,_,_,_,_,_,_,_,_,_,_,_,_,_,_,_,_,_,_,_,_,_,_,_,_,_,_,rfl⟩
          · have d1:(r1.1 !=0)=true:=by simpa using h0
            have hask:Ct.asked r1=(true,r1.1,r1.2.stop):=by unfold Ct.asked;rw [if_neg h0]
            have HAS:=Lib.hid hask
            obtain ⟨O1,A1,cap1,hC1,hR1,hF1,hA1⟩:=HD.out
            go_wp2_with fail
            go_step3
            refine .inr ⟨rfl,r1.1,r1.2,O1,A1,cap1,⟨hC1,hR1,hF1,Lib.hid ⟨hA1,HAS.out.symm⟩⟩,?_⟩
            exact ⟨_,_,_,_,_,_,_,_,_,_,_,_,_,_,_,_,_,_,_,_,_,_,_,_,_,_,_,_,_,_,_,_,_,_,_,_,_,_,_,_,_,_,_,_,_,_,_,_,_,_,_,_,_,_,_,_,_,_,_,_,_,_,_,_,_,_,_,_,_,_,_,_,_,_,_,_,_,rfl⟩
end
section
open Go.RowKit
attribute [local go_sem ↓] Go.wp_at_zero Go.wp_at_succ
attribute [local go_sem] lt_s2 lt_s3 lt_s4 str_len
variable {ap : Value} {O : Nat → Prop} {tb : Nat} {A : Option Addr} {cap : Nat}
theorem cRoot_raw (x : Ct) (tb : Nat) (w : World) (kt : w.heap[tb]? = some (.cells #[ap, .int .i64 x.src, .int .i64 x.id, .int .i64 x.length, .int .i64 x.place, .slice A x.rows.length cap, .int .i64 x.p.wave, .int .i64 x.p.marks, .int .i64 x.p.spots, .int .i64 x.p.table, .bool x.owns, .bool x.over, .int .i64 x.root] 132 (0, 0))) :
    Calls Tryz.prog 48 #[.pointer (some ⟨tb,0,none⟩)] w fun e w'=>e= .returned (.int .i64 x.root)∧w=w':=by
  go_enter Tryz.func48,Tryz.ntmps48
  have c_kt:=f3 kt;have l_ktw:=lt_of kt
  go_wp2_with fail
  go_ret
  exact ⟨rfl,rfl⟩
end
section
open Go.RowKit Go.Sort
theorem lessL_irr: ∀s:List UInt8,lessL false s s=false
  | []=>rfl
  | x::s=>by unfold lessL;rw [if_pos rfl];exact lessL_irr s
theorem lessL_asymm (d d':Bool) (hd:d=true→d'=false): ∀s t:List UInt8,lessL d s t=true→lessL d' t s=false
  | [],[],h=>by unfold lessL at h⊢;exact hd h
  | [],_::_,_=>rfl
  | _::_,[],h=>by unfold lessL at h;cases h
  | x::s,y::t,h=>by
    unfold lessL at h⊢
    by_cases e:x=y
    · rw [if_pos e] at h;rw [if_pos e.symm];exact lessL_asymm d d' hd s t h
    · rw [if_neg e] at h;rw [if_neg (fun q=>e q.symm)]
      simp only [decide_eq_true_eq,decide_eq_false_iff_not] at h⊢;omega
theorem lessL_trans (d1 d2 d3:Bool) (hd:d1=true→d2=true→d3=true): ∀s t u:List UInt8,lessL d1 s t=true→lessL d2 t u=true→lessL d3 s u=true
  | [],[],[],h1,h2=>by unfold lessL at h1 h2⊢;exact hd h1 h2
  | [],_,_::_,_,_=>rfl
  | [],_::_,[],_,h2=>by unfold lessL at h2;cases h2
  | _::_,[],_,h1,_=>by unfold lessL at h1;cases h1
  | _::_,_::_,[],_,h2=>by unfold lessL at h2;cases h2
  | x::s,y::t,z::u,h1,h2=>by
    unfold lessL at h1 h2⊢
    by_cases e1:x=y
    · rw [if_pos e1] at h1
      by_cases e2:y=z
      · rw [if_pos e2] at h2;rw [if_pos (e1.trans e2)];exact lessL_trans d1 d2 d3 hd s t u h1 h2
      · rw [if_neg e2] at h2;rw [if_neg (by rw [e1];exact e2),e1];exact h2
    · rw [if_neg e1] at h1
      by_cases e2:y=z
      · rw [if_neg (by rw [←e2];exact e1),←e2];exact h1
      · rw [if_neg e2] at h2
        simp only [decide_eq_true_eq] at h1 h2
        have e3:x≠z:=fun q=>by rw [q] at h1;omega
        rw [if_neg e3];simp only [decide_eq_true_eq];omega
theorem lessL_total (d d':Bool): ∀s t:List UInt8,lessL d s t=false→lessL d' t s=false→s=t∧d=false∧d'=false
  | [],[],h1,h2=>by unfold lessL at h1 h2;exact ⟨rfl,h1,h2⟩
  | [],_::_,h1,_=>by unfold lessL at h1;cases h1
  | _::_,[],_,h2=>by unfold lessL at h2;cases h2
  | x::s,y::t,h1,h2=>by
    unfold lessL at h1 h2
    by_cases e:x=y
    · rw [if_pos e] at h1;rw [if_pos e.symm] at h2
      obtain ⟨a,b⟩:=lessL_total d d' s t h1 h2
      exact ⟨by rw [e,a],b⟩
    · rw [if_neg e] at h1;rw [if_neg (fun q=>e q.symm)] at h2
      simp only [decide_eq_false_iff_not] at h1 h2
      exact absurd (UInt8.toNat_inj.1 (by omega)) e
def RowIn (ts:List (List UInt8)) (r:Nat×Nat):Prop:= ∃t,ts[r.1]? =some t∧r.2≤t.length
theorem rl_irr (ts:List (List UInt8)) (x:Nat×Nat):refLess ts x x=false:=by
  unfold refLess
  rw [show decide (x.1<x.1)=false by simp];exact lessL_irr _
theorem rl_asymm {ts:List (List UInt8)} {x y:Nat×Nat} (h:refLess ts x y=true):refLess ts y x=false:=
  lessL_asymm _ _ (fun h=>by simp only [decide_eq_true_eq,decide_eq_false_iff_not] at h⊢;omega) _ _ h
theorem rl_trans {ts:List (List UInt8)} {x y z:Nat×Nat} (h1:refLess ts x y=true) (h2:refLess ts y z=true):refLess ts x z=true:=
  lessL_trans _ _ _ (fun h h'=>by simp only [decide_eq_true_eq] at h h'⊢;omega) _ _ _ h1 h2
theorem rl_total {ts:List (List UInt8)} {x y:Nat×Nat} (hx:RowIn ts x) (hy:RowIn ts y) (h1:refLess ts x y=false) (h2:refLess ts y x=false):x=y:=by
  obtain ⟨t1,ht1,ha1⟩:=hx
  obtain ⟨t2,ht2,ha2⟩:=hy
  unfold refLess at h1 h2
  obtain ⟨hs,hd1,hd2⟩:=lessL_total _ _ _ _ h1 h2
  simp only [decide_eq_false_iff_not] at hd1 hd2
  have e1:x.1=y.1:=by omega
  rw [getD_at ht1,getD_at ht2] at hs
  rw [e1,ht2] at ht1
  obtain rfl:=Option.some.inj ht1
  have:=congrArg List.length hs
  rw [List.length_drop,List.length_drop] at this
  exact Prod.ext e1 (by omega)
theorem take_while {ts:List (List UInt8)} (r:Nat×Nat): ∀out:List (Nat×Nat),∀x,x∈out.take (refAt ts out r)→refLess ts x r=true
  | [],x,h=>by simp at h
  | y::out,x,h=>by
    unfold refAt at h
    rw [List.takeWhile_cons] at h
    by_cases c:refLess ts y r=true
    · rw [if_pos c,List.length_cons,List.take_succ_cons] at h
      rcases List.mem_cons.1 h with rfl|h
      · exact c
      · exact take_while r out x h
    · rw [if_neg c] at h;simp at h
theorem drop_while {ts:List (List UInt8)} (r:Nat×Nat): ∀out:List (Nat×Nat),(∀y,(out.drop (refAt ts out r)).head? =some y→refLess ts y r=false)
  | [],y,h=>by simp at h
  | z::out,y,h=>by
    unfold refAt at h
    rw [List.takeWhile_cons] at h
    by_cases c:refLess ts z r=true
    · rw [if_pos c,List.length_cons,List.drop_succ_cons] at h
      exact drop_while r out y h
    · rw [if_neg c] at h;simp at h;subst h;simpa using c
theorem ins_sorted {ts:List (List UInt8)} {out:List (Nat×Nat)} {r:Nat×Nat} (hr:RowIn ts r) (ho: ∀x,x∈out→RowIn ts x) (hn:r∉out) (h:out.Pairwise fun x y=>refLess ts x y=true):(refIns ts out r).Pairwise fun x y=>refLess ts x y=true:=by
  unfold refIns
  have ha:=take_while (ts:=ts) r out
  have hd:=drop_while (ts:=ts) r out
  have hsplit:out.take (refAt ts out r)++out.drop (refAt ts out r)=out:=List.take_append_drop _ _
  have hmem: ∀x,x∈out.drop (refAt ts out r)→x∈out:=fun x hx=>List.mem_of_mem_drop hx
  rw [←hsplit] at h
  obtain ⟨h1,h2,h3⟩:=List.pairwise_append.1 h
  generalize out.take (refAt ts out r)=A at ha h1 h3 hsplit⊢
  generalize out.drop (refAt ts out r)=B at hd h2 h3 hmem hsplit⊢
  have hb: ∀y,y∈B→refLess ts r y=true:=by
    cases B with
    | nil=>intro y hy;simp at hy
    | cons z B=>
      have hz:refLess ts r z=true:=by
        have h0:=hd z rfl
        cases hc:refLess ts r z with
        | true=>rfl
        | false=>exact absurd (rl_total hr (ho z (hmem z (by simp))) hc h0) (fun e=>hn (e▸hmem z (by simp)))
      intro y hy
      rcases List.mem_cons.1 hy with rfl|hy
      · exact hz
      · exact rl_trans hz ((List.pairwise_cons.1 h2).1 y hy)
  refine List.pairwise_append.2 ⟨h1,List.pairwise_cons.2 ⟨hb,h2⟩,fun x hx y hy=> ?_⟩
  rcases List.mem_cons.1 hy with rfl|hy
  · exact ha x hx
  · exact h3 x hx y hy
theorem fold_sorted {ts:List (List UInt8)}: ∀(l out:List (Nat×Nat)),(∀x,x∈l→RowIn ts x)→(∀x,x∈out→RowIn ts x)→(∀x,x∈l→x∉out)→l.Nodup→(out.Pairwise fun x y=>refLess ts x y=true)→((l.foldl (refIns ts) out).Pairwise fun x y=>refLess ts x y=true)
  | [],out,_,_,_,_,h=>h
  | r::l,out,hl,ho,hn,hd,h=>by
    rw [List.foldl_cons]
    obtain ⟨hd1,hd2⟩:=List.nodup_cons.1 hd
    refine fold_sorted l _ (fun x hx=>hl x (by simp [hx])) (fun x hx=> ?_) (fun x hx hm=> ?_) hd2 (ins_sorted (hl r (by simp)) ho (hn r (by simp)) h)
    · rcases (refIns_mem ts out r x).1 hx with rfl|hx
      · exact hl _ (by simp)
      · exact ho x hx
    · rcases (refIns_mem ts out r x).1 hm with rfl|hm
      · exact hd1 hx
      · exact hn x (by simp [hx]) hm
theorem ins_perm (ts:List (List UInt8)) (out:List (Nat×Nat)) (r:Nat×Nat):(refIns ts out r).Perm (r::out):=by
  unfold refIns
  refine List.perm_middle.trans ?_
  rw [List.take_append_drop]
theorem fold_perm (ts:List (List UInt8)): ∀(l out:List (Nat×Nat)),(l.foldl (refIns ts) out).Perm (l++out)
  | [],out=>List.Perm.refl _
  | r::l,out=>by
    rw [List.foldl_cons]
    refine (fold_perm ts l _).trans ?_
    refine (List.Perm.append_left l (ins_perm ts out r)).trans ?_
    exact List.perm_middle
theorem upto_nodup (ts:List (List UInt8)): ∀d a,(upto ts d a).Nodup
  | 0,0=>List.nodup_nil
  | d+1,0=>by
    rw [←upto_next]
    have h0:=upto_nodup ts d 0
    generalize (ts.getD d []).length+1=n
    induction n with
    | zero=>exact h0
    | succ n ih=>
      rw [upto_snoc]
      refine List.nodup_append.2 ⟨ih,by simp,fun x hx y hy=> ?_⟩
      rw [List.mem_singleton.1 hy]
      rintro rfl
      rcases upto_mem hx with ⟨h1, -⟩|⟨-,h1⟩
      · exact Nat.lt_irrefl _ h1
      · exact Nat.lt_irrefl _ h1
  | d,a+1=>by
    rw [upto_snoc]
    refine List.nodup_append.2 ⟨upto_nodup ts d a,by simp,fun x hx y hy=> ?_⟩
    rw [List.mem_singleton.1 hy]
    rintro rfl
    rcases upto_mem hx with ⟨h1, -⟩|⟨-,h1⟩
    · exact Nat.lt_irrefl _ h1
    · exact Nat.lt_irrefl _ h1
theorem upto_in {ts:List (List UInt8)} {x:Nat×Nat} (h:x∈upto ts ts.length 0):RowIn ts x:=by
  rcases upto_mem h with ⟨h1,h2⟩|⟨-,h1⟩
  · obtain ⟨t,ht⟩:=at_some h1
    rw [getD_at ht] at h2
    exact ⟨t,ht,h2⟩
  · omega
theorem all_sorted (ts:List (List UInt8)):(refFold ts (upto ts ts.length 0)).Pairwise fun x y=>refLess ts x y=true:=
  fold_sorted _ _ (fun _ h=>upto_in h) (by simp) (by simp) (upto_nodup ts _ _) List.Pairwise.nil
theorem all_perm (ts:List (List UInt8)):(refFold ts (upto ts ts.length 0)).Perm (upto ts ts.length 0):=by
  have:=fold_perm ts (upto ts ts.length 0) []
  rw [List.append_nil] at this
  exact this
theorem all_in {ts:List (List UInt8)} {x:Nat×Nat} (h:x∈refFold ts (upto ts ts.length 0)):RowIn ts x:=upto_in ((refFold_mem ts _ x).1 h)
def Srt (ts:List (List UInt8)) (L:List (Nat×Nat)):Prop:=L.Pairwise fun x y=>refLess ts x y=true
theorem srt_unique {ts:List (List UInt8)}: ∀{A B:List (Nat×Nat)},Srt ts A→Srt ts B→A.Perm B→A=B
  | [],B,_,_,hp=>(List.nil_perm.1 hp).symm
  | x::A,[],_,_,hp=>absurd hp.symm (by simp)
  | x::A,y::B,ha,hb,hp=>by
    obtain ⟨a1,a2⟩:=List.pairwise_cons.1 ha
    obtain ⟨b1,b2⟩:=List.pairwise_cons.1 hb
    have e:x=y:=by
      have hx:x∈y::B:=hp.mem_iff.1 (by simp)
      have hy:y∈x::A:=hp.mem_iff.2 (by simp)
      rcases List.mem_cons.1 hx with h|h
      · exact h
      · rcases List.mem_cons.1 hy with h'|h'
        · exact h'.symm
        · have h1:=b1 x h
          rw [rl_asymm (a1 y h')] at h1;cases h1
    subst e
    rw [srt_unique a2 b2 hp.cons_inv]
abbrev RowT (ts:List (List UInt8)):={r:Nat×Nat//RowIn ts r}
def cmpR (ts:List (List UInt8)) (x y:RowT ts):Int:=if refLess ts x.1 y.1 then -1 else 1
theorem lt_cmpR (ts:List (List UInt8)) (x y:RowT ts):decide (cmpR ts x y<0)=refLess ts x.1 y.1:=by
  unfold cmpR
  cases refLess ts x.1 y.1<;>rfl
def rowsT (ts:List (List UInt8)) (l:List (Nat×Nat)) (h: ∀x,x∈l→RowIn ts x):List (RowT ts):=l.pmap Subtype.mk h
theorem rowsT_val {ts:List (List UInt8)} (l:List (Nat×Nat)) (h: ∀x,x∈l→RowIn ts x):(rowsT ts l h).map (·.1)=l:=by
  unfold rowsT;rw [List.map_pmap];simp
end
section
open Go.RowKit
def refsTo (used:Nat→Bool) (node:Nat→Nd) (h:Int):Nat→Nat
  | 0=>0
  | d+1=>refsTo used node h d+(if used (d+1) then (node (d+1)).kids.count h else 0)
def Ar.refs (s:Ar) (h:Int):Nat:=refsTo s.used s.node h s.size
theorem kids_count_le (n:Nd) (h:Int):n.kids.count h≤4:=by
  have:=List.count_le_length (a:=h) (l:=n.kids)
  exact this
theorem refsTo_le (used:Nat→Bool) (node:Nat→Nd) (h:Int): ∀d,refsTo used node h d≤4*d
  | 0=>by simp [refsTo]
  | d+1=>by
    have:=refsTo_le used node h d
    have:=kids_count_le (node (d+1)) h
    unfold refsTo
    split<;>omega
theorem refsTo_far (used:Nat→Bool) (node:Nat→Nd) (h:Int) (f:Nat) (u:Bool) (n:Nd): ∀d,d<f→refsTo (upd used f u) (upd node f n) h d=refsTo used node h d
  | 0,_=>rfl
  | d+1,hd=>by
    unfold refsTo
    rw [refsTo_far used node h f u n d (by omega),upd_ne _ _ _ _ (show d+1≠f by omega),upd_ne _ _ _ _ (show d+1≠f by omega)]
theorem refsTo_upd (used : Nat → Bool) (node : Nat → Nd) (h : Int) (f : Nat) (u : Bool) (n : Nd) (h1 : 1 ≤ f) : ∀ d, f ≤ d →
    refsTo (upd used f u) (upd node f n) h d+(if used f then (node f).kids.count h else 0)=refsTo used node h d+(if u then n.kids.count h else 0)
  | 0,hd=>by omega
  | d+1,hd=>by
    unfold refsTo
    by_cases e:f=d+1
    · subst e
      rw [refsTo_far used node h (d+1) u n d (by omega),upd_self,upd_self];omega
    · have:=refsTo_upd used node h f u n h1 d (by omega)
      rw [upd_ne _ _ _ _ (show d+1≠f by omega),upd_ne _ _ _ _ (show d+1≠f by omega)];omega
theorem refsTo_pos (used:Nat→Bool) (node:Nat→Nd) (h:Int) (n:Nat) (h1:1≤n) (hu:used n=true) (hk:h∈(node n).kids): ∀d,n≤d→0<refsTo used node h d
  | 0,hd=>by omega
  | d+1,hd=>by
    unfold refsTo
    by_cases e:n=d+1
    · subst e
      rw [if_pos hu]
      have:=List.count_pos_iff.2 hk
      omega
    · have:=refsTo_pos used node h n h1 hu hk d (by omega)
      omega
theorem refsTo_zero (used:Nat→Bool) (node:Nat→Nd) (h:Int): ∀d,(∀n,1≤n→n≤d→used n=true→h∉(node n).kids)→refsTo used node h d=0
  | 0,_=>rfl
  | d+1,H=>by
    unfold refsTo
    rw [refsTo_zero used node h d (fun n a b c=>H n a (by omega) c)]
    by_cases hu:used (d+1)=true
    · rw [if_pos hu,List.count_eq_zero.2 (H (d+1) (by omega) (by omega) hu)]
    · rw [if_neg hu]
def usedTo (used:Nat→Bool):Nat→Nat
  | 0=>0
  | d+1=>usedTo used d+(if used (d+1) then 1 else 0)
def Ar.busyN (s:Ar):Nat:=usedTo s.used s.size
theorem usedTo_le (used:Nat→Bool): ∀d,usedTo used d≤d
  | 0=>Nat.le_refl _
  | d+1=>by have:=usedTo_le used d;unfold usedTo;split<;>omega
theorem usedTo_far (used:Nat→Bool) (f:Nat) (u:Bool): ∀d,d<f→usedTo (upd used f u) d=usedTo used d
  | 0,_=>rfl
  | d+1,hd=>by
    unfold usedTo
    rw [usedTo_far used f u d (by omega),upd_ne _ _ _ _ (show d+1≠f by omega)]
theorem usedTo_upd (used:Nat→Bool) (f:Nat) (u:Bool) (h1:1≤f): ∀d,f≤d→usedTo (upd used f u) d+(if used f then 1 else 0)=usedTo used d+(if u then 1 else 0)
  | 0,hd=>by omega
  | d+1,hd=>by
    unfold usedTo
    by_cases e:f=d+1
    · subst e
      rw [usedTo_far used (d+1) u d (by omega),upd_self];omega
    · have:=usedTo_upd used f u h1 d (by omega)
      rw [upd_ne _ _ _ _ (show d+1≠f by omega)];omega
theorem usedTo_all (used:Nat→Bool): ∀d,(∀n,1≤n→n≤d→used n=true)→usedTo used d=d
  | 0,_=>rfl
  | d+1,h=>by
    unfold usedTo
    rw [usedTo_all used d (fun n a b=>h n a (by omega)),if_pos (h (d+1) (by omega) (by omega))]
theorem usedTo_none (used:Nat→Bool): ∀d,(∀n,1≤n→n≤d→used n=false)→usedTo used d=0
  | 0,_=>rfl
  | d+1,h=>by
    unfold usedTo
    rw [usedTo_none used d (fun n a b=>h n a (by omega)),h (d+1) (by omega) (by omega)];rfl
theorem usedTo_congr (u u':Nat→Bool): ∀d,(∀n,1≤n→n≤d→u n=u' n)→usedTo u d=usedTo u' d
  | 0,_=>rfl
  | d+1,h=>by
    unfold usedTo
    rw [usedTo_congr u u' d (fun n a b=>h n a (by omega)),h (d+1) (by omega) (by omega)]
theorem freeFrom_zero (used:Nat→Bool) (size:Nat): ∀d h,1≤h→freeFrom used size d h=0→ ∀n,h≤n→n<h+d→used n=true
  | 0,h,_,_,n,a,b=>by omega
  | d+1,h,h1,hf,n,a,b=>by
    unfold freeFrom at hf
    by_cases hu:used h=true
    · rw [if_pos hu] at hf
      by_cases e:n=h
      · rw [e];exact hu
      · exact freeFrom_zero used size d (h+1) (by omega) hf n (by omega) (by omega)
    · rw [if_neg hu] at hf;omega
structure Inv (s:Ar) (H:List Int):Prop where
  wq:s.Wq
  hl:H.length≤1000000
  cnt: ∀n:Nat,1≤n→n≤s.size→s.used n=true→s.count n=((s.refs n+H.count (n:Int):Nat):Int)
  zero: ∀n:Nat,1≤n→n≤s.size→s.used n=true→s.count n=0→n∈s.wait
  kid: ∀n:Nat,1≤n→n≤s.size→s.used n=true→ ∀k∈(s.node n).kids,k≠0→s.has k=true
  held: ∀h∈H,h≠0→s.has h=true
  rank: ∃rk:Nat→Nat,∀n:Nat,1≤n→n≤s.size→s.used n=true→ ∀k∈(s.node n).kids,k≠0→rk k.toNat<rk n
  busy:s.busy=(s.busyN:Int)
theorem has_iff {s:Ar} {h:Int}:s.has h=true↔1≤h∧h≤s.size∧s.used h.toNat=true:=by
  unfold Ar.has
  simp only [Bool.and_eq_true,decide_eq_true_eq]
theorem has_nat {s:Ar} {h:Int} (hh:s.has h=true): ∃n:Nat,h=n∧1≤n∧n≤s.size∧s.used n=true:=by
  obtain ⟨h1,h2,h3⟩:=has_iff.1 hh
  exact ⟨h.toNat,by omega,by omega,by omega,h3⟩
theorem Inv.refs_le {s:Ar} {H:List Int} (h:Inv s H) (x:Int):s.refs x+H.count x≤1024000:=by
  have h1:=refsTo_le s.used s.node x s.size
  have h2:=h.wq.small
  have h3:=List.count_le_length (a:=x) (l:=H)
  have h4:=h.hl
  unfold Ar.refs
  omega
theorem Inv.perm {s:Ar} {H H':List Int} (h:Inv s H) (hp:H.Perm H'):Inv s H':=
  ⟨h.wq,by rw [←hp.length_eq];exact h.hl,fun n h1 h2 h3=>by rw [←hp.count_eq];exact h.cnt n h1 h2 h3,h.zero,h.kid,fun x hx=>h.held x (hp.mem_iff.2 hx),h.rank,h.busy⟩
theorem Inv.pos {s:Ar} {H:List Int} (h:Inv s H) {x:Int} (hx:x∈H) (h0:x≠0):s.cnt x≠0:=by
  obtain ⟨n,rfl,h1,h2,h3⟩:=has_nat (h.held x hx h0)
  rw [Ar.cnt_nat h1 h2,h.cnt n h1 h2 h3]
  have:=List.count_pos_iff.2 hx
  omega
theorem Inv.kid_pos {s:Ar} {H:List Int} (h:Inv s H) {n:Nat} (n1:1≤n) (n2:n≤s.size) (n3:s.used n=true) {k:Int} (hk:k∈(s.node n).kids) (h0:k≠0):s.cnt k≠0:=by
  obtain ⟨m,rfl,h1,h2,h3⟩:=has_nat (h.kid n n1 n2 n3 k hk h0)
  rw [Ar.cnt_nat h1 h2,h.cnt m h1 h2 h3]
  have:=refsTo_pos s.used s.node (m:Int) n n1 n3 hk s.size n2
  unfold Ar.refs
  omega
theorem Inv.zero_cons {s:Ar} {H:List Int} (h:Inv s H) (hl:H.length≤999999):Inv s (0::H):=by
  refine ⟨h.wq,by simp;omega,fun n h1 h2 h3=> ?_,h.zero,h.kid,fun x hx h0=> ?_,h.rank,h.busy⟩
  · rw [List.count_cons_of_ne (by omega)];exact h.cnt n h1 h2 h3
  · rcases List.mem_cons.1 hx with rfl|hx
    · exact absurd rfl h0
    · exact h.held x hx h0
theorem Inv.keep {s:Ar} {H:List Int} (h:Inv s H) (hl:H.length≤999999) {x:Int} (hx:s.cnt x≠0):Inv (s.keep x) (x::H):=by
  have hW:=h.wq.keep x
  have hsz:=Ar.keep_size s x
  obtain ⟨n,rfl,h1,h2,h3⟩:=Ar.cnt_pos hx
  have hu:s.used n=true:=by
    cases hu:s.used n with
    | true=>rfl
    | false=>rw [h.wq.free n hu] at h3;exact absurd h3.symm hx
  have hb:=h.refs_le (n:Int)
  have hc:=h.cnt n h1 h2 hu
  have hk:s.keep (n:Int)={s with count:=upd s.count n (wrap64 (s.cnt n+1))}:=by unfold Ar.keep;rw [if_neg hx];rfl
  have hw:wrap64 (s.cnt n+1)=s.count n+1:=by rw [Ar.cnt_nat h1 h2,IntWalk.wrap64_in _ (by omega)]
  rw [hw] at hk
  rw [hk] at hW⊢
  refine ⟨hW,by simp;omega,fun m m1 m2 m3=> ?_,fun m m1 m2 m3 m4=> ?_,h.kid,fun y hy h0=> ?_,h.rank,h.busy⟩
  · show upd s.count n (s.count n+1) m=((s.refs m+_:Nat):Int)
    by_cases e:m=n
    · subst e
      rw [upd_self,hc,List.count_cons_self];omega
    · rw [upd_ne _ _ _ _ e,List.count_cons_of_ne (by omega)];exact h.cnt m m1 m2 m3
  · replace m4:upd s.count n (s.count n+1) m=0:=m4
    by_cases e:m=n
    · subst e;rw [upd_self,hc] at m4;omega
    · rw [upd_ne _ _ _ _ e] at m4;exact h.zero m m1 m2 m3 m4
  · rcases List.mem_cons.1 hy with rfl|hy
    · exact has_iff.2 ⟨by omega,by show (n:Int)≤(s.size:Int);omega,by simpa using hu⟩
    · exact h.held y hy h0
theorem Inv.tail_zero {s:Ar} {H:List Int} (h:Inv s (0::H)):Inv s H:=
  ⟨h.wq,by have:=h.hl;simp at this;omega,fun n a b c=>by rw [h.cnt n a b c,List.count_cons_of_ne (by omega)],h.zero,h.kid,fun x hx=>h.held x (List.mem_cons_of_mem _ hx),h.rank,h.busy⟩
theorem cnt_zero (s:Ar):s.cnt 0=0:=by unfold Ar.cnt;rw [if_neg (by omega)]
theorem drop_zero (s:Ar):s.drop 0=s:=by unfold Ar.drop;rw [if_pos (cnt_zero s)]
theorem keep_zero (s:Ar):s.keep 0=s:=by unfold Ar.keep;rw [if_pos (cnt_zero s)]
theorem Inv.drop {s:Ar} {H:List Int} {x:Int} (h:Inv s (x::H)):Inv (s.drop x) H:=by
  by_cases h0:x=0
  · subst h0
    rw [drop_zero];exact h.tail_zero
  have hW:=h.wq.drop x
  obtain ⟨n,rfl,h1,h2,hu⟩:=has_nat (h.held x (by simp) h0)
  have hc:=h.cnt n h1 h2 hu
  have hb:=h.refs_le (n:Int)
  rw [List.count_cons_self] at hc hb
  have hcn:s.cnt (n:Int)=s.count n:=Ar.cnt_nat h1 h2
  have hne:s.cnt (n:Int)≠0:=by rw [hcn,hc];omega
  have hw:wrap64 (s.cnt n - 1)=s.count n - 1:=by rw [hcn,IntWalk.wrap64_in _ (by omega)]
  have hk:s.drop (n:Int)={s with count:=upd s.count n (s.count n - 1),wait:=if s.count n - 1=0 then s.wait++[n] else s.wait}:=by
    unfold Ar.drop;rw [if_neg hne,hw];simp
  rw [hk] at hW⊢
  refine ⟨hW,by have:=h.hl;simp at this;omega,fun m m1 m2 m3=> ?_,fun m m1 m2 m3 m4=> ?_,h.kid,fun y hy h0=>h.held y (List.mem_cons_of_mem _ hy) h0,h.rank,h.busy⟩
  · show upd s.count n (s.count n - 1) m=((s.refs m+H.count (m:Int):Nat):Int)
    by_cases e:m=n
    · subst e
      rw [upd_self,hc];omega
    · rw [upd_ne _ _ _ _ e]
      have:=h.cnt m m1 m2 m3
      rw [List.count_cons_of_ne (by omega)] at this;exact this
  · replace m4:upd s.count n (s.count n - 1) m=0:=m4
    show m∈(if s.count n - 1=0 then s.wait++[n] else s.wait)
    by_cases e:m=n
    · subst e;rw [upd_self] at m4;rw [if_pos m4];simp
    · rw [upd_ne _ _ _ _ e] at m4
      have:=h.zero m m1 m2 m3 m4
      split<;>simp [this]
theorem Inv.dropAll {H:List Int}: ∀{l:List Int} {s:Ar},Inv s (l++H)→Inv (s.dropAll l) H
  | [],_,h=>h
  | _::l,_,h=>Inv.dropAll (l:=l) h.drop
structure Grow (s s':Ar):Prop where
  size:s'.size=s.size
  used: ∀n,s.used n=true→s'.used n=true
  node: ∀n,s.used n=true→s'.node n=s.node n
theorem Grow.refl (s:Ar):Grow s s:=⟨rfl,fun _ h=>h,fun _ _=>rfl⟩
theorem Grow.trans {a b c:Ar} (h1:Grow a b) (h2:Grow b c):Grow a c:=⟨h2.size.trans h1.size,fun n h=>h2.used n (h1.used n h),fun n h=>(h2.node n (h1.used n h)).trans (h1.node n h)⟩
theorem Grow.keep (s:Ar) (x:Int):Grow s (s.keep x):=by unfold Ar.keep;split<;>exact ⟨rfl,fun _ h=>h,fun _ _=>rfl⟩
theorem Grow.drop (s:Ar) (x:Int):Grow s (s.drop x):=by unfold Ar.drop;split<;>exact ⟨rfl,fun _ h=>h,fun _ _=>rfl⟩
theorem Grow.dropAll: ∀(l:List Int) (s:Ar),Grow s (s.dropAll l)
  | [],s=>Grow.refl s
  | x::l,s=>(Grow.drop s x).trans (Grow.dropAll l _)
theorem busyN_keep (s:Ar) (x:Int):(s.keep x).busyN=s.busyN:=by unfold Ar.keep;split<;>rfl
theorem busyN_drop (s:Ar) (x:Int):(s.drop x).busyN=s.busyN:=by unfold Ar.drop;split<;>rfl
theorem busyN_dropAll: ∀(l:List Int) (s:Ar),(s.dropAll l).busyN=s.busyN
  | [],_=>rfl
  | x::l,s=>(busyN_dropAll l (s.drop x)).trans (busyN_drop s x)
theorem incAll_eq: ∀(l:List Int) (c:Nat→Int) (B:Int),(∀k∈l,k≠0→1≤k∧0≤c k.toNat∧c k.toNat≤B)→B+l.length≤4000000000000000000→ ∀m:Nat,1≤m→incAll c l m=c m+l.count (m:Int)
  | [],c,_,_,_,m,_=>by simp [incAll]
  | k::l,c,B,hk,hB,m,hm=>by
    unfold incAll
    rw [List.length_cons] at hB
    by_cases h0:k=0
    · subst h0
      rw [if_pos rfl,incAll_eq l c B (fun x hx=>hk x (by simp [hx])) (by omega) m hm,List.count_cons_of_ne (by omega)]
    · obtain ⟨k1,k2,k3⟩:=hk k (by simp) h0
      have hw:wrap64 (c k.toNat+1)=c k.toNat+1:=IntWalk.wrap64_in _ (by omega)
      rw [if_neg h0,hw,incAll_eq l _ (B+1) (fun x hx hx0=> ?_) (by omega) m hm]
      · by_cases e:m=k.toNat
        · have:(m:Int)=k:=by omega
          rw [this,List.count_cons_self,e,upd_self];omega
        · rw [upd_ne _ _ _ _ e,List.count_cons_of_ne (by omega)]
      · obtain ⟨x1,x2,x3⟩:=hk x (by simp [hx]) hx0
        refine ⟨x1,?_⟩
        by_cases e:x.toNat=k.toNat
        · rw [e,upd_self];omega
        · rw [upd_ne _ _ _ _ e];omega
theorem Inv.used_of {s:Ar} {H:List Int} (h:Inv s H) {n:Nat} (hc:s.cnt (n:Int)≠0):1≤n∧n≤s.size∧s.used n=true:=by
  obtain ⟨m,e,h1,h2,h3⟩:=Ar.cnt_pos hc
  obtain rfl:n=m:=by omega
  refine ⟨h1,h2,?_⟩
  cases hu:s.used n with
  | true=>rfl
  | false=>rw [h.wq.free n hu] at h3;exact absurd h3.symm hc
theorem kid_mem {n:Nd}:n.k0∈n.kids∧n.k1∈n.kids∧n.k2∈n.kids∧n.k3∈n.kids:=by simp [Nd.kids]
theorem Inv.make {s : Ar} {H : List Int} (h : Inv s H) (hl : H.length ≤ 999999) (n : Nd) (ht : 1 ≤ n.tag ∧ n.tag ≤ 6) (hn : U64 n.a) (hk : ∀ k ∈ n.kids, k ≠ 0 → s.cnt k ≠ 0) :
    (s.make n=(0,2,s)∧s.busyN=s.size)∨
    ∃f:Nat,1≤f∧f≤s.size∧s.used f=false∧(s.make n).1=f∧(s.make n).2.1=0∧Inv (s.make n).2.2 (f::H)∧Grow s (s.make n).2.2∧(s.make n).2.2.used f=true∧(s.make n).2.2.node f=n∧(s.make n).2.2.busyN=s.busyN+1:=by
  have hb:s.bad n.kids=false:=by
    unfold Ar.bad
    rw [List.any_eq_false]
    intro k hk'
    have:=hk k hk'
    simp only [bne_iff_ne,ne_eq,Bool.and_eq_true,beq_iff_eq,not_and]
    exact this
  by_cases hf:s.free=0
  · left
    refine ⟨?_,?_⟩
    · unfold Ar.make;rw [if_neg (by omega),hb,if_neg (by simp),if_pos hf]
    · exact usedTo_all _ _ fun m a b=>freeFrom_zero s.used s.size s.size 1 (by omega) hf m a (by omega)
  · right
    obtain ⟨f,hff,f1,f2,fu⟩:=Ar.free_spec hf
    have hW:=h.wq.make n hn
    have hm:s.make n=(s.free,0,{s with node:=upd s.node s.free.toNat n,count:=upd (incAll s.count n.kids) s.free.toNat 1,used:=upd s.used s.free.toNat true,busy:=wrap64 (s.busy+1),made:=wrap64 (s.made+1)}):=by
      unfold Ar.make;rw [if_neg (by omega),hb,if_neg (by simp),if_neg hf]
    rw [hff,Int.toNat_natCast] at hm
    rw [hm] at hW⊢
    have hz:s.count f=0:=h.wq.free f fu
    have hk': ∀k∈n.kids,k≠0→ ∃j:Nat,k=j∧1≤j∧j≤s.size∧s.used j=true∧j≠f:=fun k hk1 hk0=>by
      obtain ⟨j,rfl, -⟩:=Ar.cnt_pos (hk k hk1 hk0)
      obtain ⟨a,b,c⟩:=h.used_of (hk _ hk1 hk0)
      exact ⟨j,rfl,a,b,c,fun e=>by rw [e,fu] at c;cases c⟩
    have hinc: ∀m:Nat,1≤m→incAll s.count n.kids m=s.count m+n.kids.count (m:Int):=incAll_eq _ _ 1024000 (fun k hk1 hk0=>by
      obtain ⟨j,rfl,a,b,c, -⟩:=hk' k hk1 hk0
      have:=h.cnt j a b c
      have:=h.refs_le (j:Int)
      rw [Int.toNat_natCast];omega) (by simp [Nd.kids])
    have hrf: ∀m:Nat,refsTo (upd s.used f true) (upd s.node f n) (m:Int) s.size=s.refs m+n.kids.count (m:Int):=fun m=>by
      have:=refsTo_upd s.used s.node (m:Int) f true n f1 s.size f2
      rw [fu] at this
      simp only [Bool.false_eq_true,if_false,if_true,Nat.add_zero] at this
      exact this
    have hus: ∀m,s.used m=true→m≠f:=fun m hm' e=>by rw [e,fu] at hm';cases hm'
    have hus': ∀m,s.used m=true→upd s.used f true m=true:=fun m hm'=>by rw [upd_ne _ _ _ _ (hus m hm')];exact hm'
    have hhas: ∀x,s.has x=true→Ar.has {s with node:=upd s.node f n,count:=upd (incAll s.count n.kids) f 1,used:=upd s.used f true,busy:=wrap64 (s.busy+1),made:=wrap64 (s.made+1)} x=true:=fun x hx=>by
      obtain ⟨a,b,c⟩:=has_iff.1 hx
      exact has_iff.2 ⟨a,b,hus' _ c⟩
    have hfh:Ar.has {s with node:=upd s.node f n,count:=upd (incAll s.count n.kids) f 1,used:=upd s.used f true,busy:=wrap64 (s.busy+1),made:=wrap64 (s.made+1)} (f:Int)=true:=has_iff.2 ⟨by omega,by show (f:Int)≤(s.size:Int);omega,by show upd s.used f true (Int.toNat (f:Int))=true;rw [Int.toNat_natCast,upd_self]⟩
    have hfk: ∀m,1≤m→m≤s.size→s.used m=true→(f:Int)∉(s.node m).kids:=fun m a b c hmem=>by
      have:=h.kid m a b c f hmem (by omega)
      obtain ⟨-, -,d⟩:=has_iff.1 this
      rw [Int.toNat_natCast,fu] at d;cases d
    refine ⟨f,f1,f2,fu,rfl,rfl,⟨hW,by simp;omega,fun m m1 m2 m3=> ?_,fun m m1 m2 m3 m4=> ?_,fun m m1 m2 m3 k hk1 hk0=> ?_,fun y hy h0=> ?_,?_,?_⟩,⟨rfl,hus',fun m hm'=> ?_⟩,upd_self _ _ _,upd_self _ _ _,?_⟩
    · show upd (incAll s.count n.kids) f 1 m=((refsTo (upd s.used f true) (upd s.node f n) (m:Int) s.size+(List.count (m:Int) ((f:Int)::H)):Nat):Int)
      rw [hrf]
      by_cases e:m=f
      · subst e
        have r0:s.refs (m:Int)=0:=refsTo_zero _ _ _ _ hfk
        have k0:n.kids.count (m:Int)=0:=List.count_eq_zero.2 fun hmem=>by
          obtain ⟨j,e, -, -, -,hj⟩:=hk' _ hmem (by omega)
          omega
        have c0:H.count (m:Int)=0:=List.count_eq_zero.2 fun hmem=>by
          have:=h.held _ hmem (by omega)
          obtain ⟨-, -,d⟩:=has_iff.1 this
          rw [Int.toNat_natCast,fu] at d;cases d
        rw [upd_self,List.count_cons_self,r0,k0,c0];rfl
      · have m3' : s.used m = true := by
          replace m3:upd s.used f true m=true:=m3
          rw [upd_ne _ _ _ _ e] at m3;exact m3
        rw [upd_ne _ _ _ _ e,hinc m m1,h.cnt m m1 m2 m3',List.count_cons_of_ne (by omega)];omega
    · replace m3:upd s.used f true m=true:=m3
      replace m4:upd (incAll s.count n.kids) f 1 m=0:=m4
      by_cases e:m=f
      · rw [e,upd_self] at m4;omega
      · rw [upd_ne _ _ _ _ e] at m3 m4
        rw [hinc m m1] at m4
        have:=h.cnt m m1 m2 m3
        exact h.zero m m1 m2 m3 (by omega)
    · replace m3:upd s.used f true m=true:=m3
      replace hk1:k∈(upd s.node f n m).kids:=hk1
      by_cases e:m=f
      · rw [e,upd_self] at hk1
        obtain ⟨j,rfl,a,b,c, -⟩:=hk' k hk1 hk0
        exact hhas _ (has_iff.2 ⟨by omega,by omega,by simpa using c⟩)
      · rw [upd_ne _ _ _ _ e] at m3 hk1
        exact hhas _ (h.kid m m1 m2 m3 k hk1 hk0)
    · rcases List.mem_cons.1 hy with rfl|hy
      · exact hfh
      · exact hhas _ (h.held y hy h0)
    · obtain ⟨rk,hrk⟩:=h.rank
      refine ⟨fun m=>if m=f then rk n.k0.toNat+rk n.k1.toNat+rk n.k2.toNat+rk n.k3.toNat+1 else rk m,fun m m1 m2 m3 k hk1 hk0=> ?_⟩
      replace m3:upd s.used f true m=true:=m3
      replace hk1:k∈(upd s.node f n m).kids:=hk1
      dsimp only
      by_cases e:m=f
      · rw [e,upd_self] at hk1
        obtain ⟨j,rfl,a,b,c,d⟩:=hk' k hk1 hk0
        rw [Int.toNat_natCast,if_neg d,if_pos e]
        simp only [Nd.kids,List.mem_cons,List.not_mem_nil,or_false] at hk1
        rcases hk1 with q|q|q|q<;>rw [←q,Int.toNat_natCast]<;>omega
      · rw [upd_ne _ _ _ _ e] at m3 hk1
        have hk2:=h.kid m m1 m2 m3 k hk1 hk0
        obtain ⟨-, -,d⟩:=has_iff.1 hk2
        rw [if_neg e,if_neg (hus _ d)]
        exact hrk m m1 m2 m3 k hk1 hk0
    · show wrap64 (s.busy+1)=((usedTo (upd s.used f true) s.size:Nat):Int)
      have:=usedTo_upd s.used f true f1 s.size f2
      have h6:=h.wq.small
      have h7:=usedTo_le s.used s.size
      rw [fu] at this
      rw [h.busy,IntWalk.wrap64_in _ (by unfold Ar.busyN;omega)]
      unfold Ar.busyN;simp at this;omega
    · exact upd_ne _ _ _ _ (hus m hm')
    · have:=usedTo_upd s.used f true f1 s.size f2
      rw [fu] at this
      simp only [Bool.false_eq_true,if_false,if_true,Nat.add_zero] at this
      exact this
end
section
open Go.RowKit
inductive Tr where
  | nil
  | nd (tag a b:Int) (t0 t1 t2 t3:Tr)
def Tr.size:Tr→Nat
  | .nil=>0
  | .nd _ _ _ t0 t1 t2 t3=>t0.size+t1.size+t2.size+t3.size+1
inductive Rep (s:Ar):Int→Tr→Prop where
  | nil:Rep s 0 .nil
  | nd {h tag a b k0 k1 k2 k3:Int} {t0 t1 t2 t3:Tr}:s.has h=true→s.get h=⟨tag,k0,k1,k2,k3,a,b⟩→Rep s k0 t0→Rep s k1 t1→Rep s k2 t2→Rep s k3 t3→Rep s h (.nd tag a b t0 t1 t2 t3)
theorem has_ne {s:Ar} {h:Int} (hh:s.has h=true):h≠0:=by have:=(has_iff.1 hh).1;omega
theorem Rep.get {s : Ar} {h tag a b : Int} {t0 t1 t2 t3 : Tr} (hr : Rep s h (.nd tag a b t0 t1 t2 t3)) :
    ∃k0 k1 k2 k3,s.has h=true∧s.get h=⟨tag,k0,k1,k2,k3,a,b⟩∧Rep s k0 t0∧Rep s k1 t1∧Rep s k2 t2∧Rep s k3 t3:=by
  cases hr with
  | nd h1 h2 r0 r1 r2 r3=>exact ⟨_,_,_,_,h1,h2,r0,r1,r2,r3⟩
theorem Rep.zero {s:Ar} {h:Int} (hr:Rep s h .nil):h=0:=by cases hr;rfl
theorem Rep.ne {s:Ar} {h tag a b:Int} {t0 t1 t2 t3:Tr} (hr:Rep s h (.nd tag a b t0 t1 t2 t3)):h≠0:=by
  obtain ⟨_,_,_,_,h1, -⟩:=hr.get;exact has_ne h1
theorem has_get {s s':Ar} {h:Int} (hs:s'.size=s.size) (hh:s.has h=true) (hu:s'.used h.toNat=true) (hn:s'.node h.toNat=s.node h.toNat):s'.has h=true∧s'.get h=s.get h:=by
  have h1:s'.has h=true:=by
    obtain ⟨a,b,c⟩:=has_iff.1 hh
    exact has_iff.2 ⟨a,by rw [hs];exact b,hu⟩
  refine ⟨h1,?_⟩
  unfold Ar.get
  rw [h1,hh,if_pos rfl,if_pos rfl,hn]
theorem Grow.has {s s':Ar} (hg:Grow s s') {h:Int} (hh:s.has h=true):s'.has h=true∧s'.get h=s.get h:=
  has_get hg.size hh (hg.used _ (has_iff.1 hh).2.2) (hg.node _ (has_iff.1 hh).2.2)
theorem Rep.grow {s s':Ar} (hg:Grow s s') {h:Int} {t:Tr} (hr:Rep s h t):Rep s' h t:=by
  induction hr with
  | nil=>exact .nil
  | nd h1 h2 _ _ _ _ i0 i1 i2 i3=>exact .nd (hg.has h1).1 ((hg.has h1).2.trans h2) i0 i1 i2 i3
theorem refsTo_mono {u u':Nat→Bool} {f f':Nat→Nd} (h: ∀n,u n=true→u' n=true∧f' n=f n) (x:Int): ∀d,refsTo u f x d≤refsTo u' f' x d
  | 0=>Nat.le_refl _
  | d+1=>by
    have:=refsTo_mono h x d
    unfold refsTo
    by_cases hu:u (d+1)=true
    · obtain ⟨a,b⟩:=h (d+1) hu
      rw [if_pos hu,if_pos a,b];omega
    · rw [if_neg hu];omega
theorem Inv.live {s s':Ar} {H H':List Int} (h:Inv s H) (h':Inv s' H') (hg:Grow s s') (hH: ∀x,H.count x≤H'.count x) {x:Int} (hc:s.cnt x≠0):s'.cnt x≠0:=by
  obtain ⟨n,rfl,n1,n2,n3⟩:=Ar.cnt_pos hc
  obtain ⟨-, -,hu⟩:=h.used_of hc
  have e1:=h.cnt n n1 n2 hu
  have e2:=h'.cnt n n1 (by rw [hg.size];exact n2) (hg.used n hu)
  rw [Ar.cnt_nat n1 n2,e1] at hc
  rw [Ar.cnt_nat n1 (by rw [hg.size];exact n2),e2]
  have h3:=refsTo_mono (fun m hm=>⟨hg.used m hm,hg.node m hm⟩) (n:Int) s.size (u:=s.used) (u':=s'.used) (f:=s.node) (f':=s'.node)
  have h4:=hH (n:Int)
  unfold Ar.refs at hc⊢
  rw [hg.size]
  omega
inductive Rc (s:Ar) (H:List Int):Int→Prop where
  | held {h:Int}:h∈H→h≠0→Rc s H h
  | kid {h k:Int}:Rc s H h→k∈(s.get h).kids→k≠0→Rc s H k
theorem get_nat {s:Ar} {h:Int} (hh:s.has h=true):s.get h=s.node h.toNat:=by unfold Ar.get;rw [if_pos hh]
theorem Inv.kid_has {s:Ar} {H:List Int} (h:Inv s H) {x k:Int} (hx:s.has x=true) (hk:k∈(s.get x).kids) (h0:k≠0):s.has k=true∧s.cnt k≠0:=by
  obtain ⟨n,rfl,n1,n2,n3⟩:=has_nat hx
  rw [get_nat hx,Int.toNat_natCast] at hk
  exact ⟨h.kid n n1 n2 n3 k hk h0,h.kid_pos n1 n2 n3 hk h0⟩
theorem Inv.rc {s:Ar} {H:List Int} (h:Inv s H) {x:Int} (hx:Rc s H x):s.has x=true∧s.cnt x≠0:=by
  induction hx with
  | held h1 h2=>exact ⟨h.held _ h1 h2,h.pos h1 h2⟩
  | kid _ h1 h2 ih=>exact h.kid_has ih.1 h1 h2
structure Stay (s s':Ar) (H:List Int):Prop where
  size:s'.size=s.size
  same: ∀h,Rc s H h→s'.has h=true∧s'.get h=s.get h
theorem Stay.refl {s:Ar} {H:List Int} (h:Inv s H):Stay s s H:=⟨rfl,fun _ hx=>⟨(h.rc hx).1,rfl⟩⟩
theorem Grow.stay {s s':Ar} {H:List Int} (hg:Grow s s') (h:Inv s H):Stay s s' H:=⟨hg.size,fun _ hx=>hg.has (h.rc hx).1⟩
theorem Stay.rc {s s':Ar} {H:List Int} (h:Stay s s' H) {x:Int} (hx:Rc s H x):Rc s' H x:=by
  induction hx with
  | held h1 h2=>exact .held h1 h2
  | kid h0 h1 h2 ih=>exact .kid ih (by rw [(h.same _ h0).2];exact h1) h2
theorem Stay.rc' {s s':Ar} {H:List Int} (h:Stay s s' H) {x:Int} (hx:Rc s' H x):Rc s H x:=by
  induction hx with
  | held h1 h2=>exact .held h1 h2
  | kid h0 h1 h2 ih=>exact .kid ih (by rw [←(h.same _ ih).2];exact h1) h2
theorem Stay.trans {a b c:Ar} {H:List Int} (h1:Stay a b H) (h2:Stay b c H):Stay a c H:=
  ⟨h2.size.trans h1.size,fun x hx=>⟨(h2.same x (h1.rc hx)).1,(h2.same x (h1.rc hx)).2.trans (h1.same x hx).2⟩⟩
theorem Rc.mono {s:Ar} {H H':List Int} (h: ∀x∈H,x≠0→x∈H') {x:Int} (hx:Rc s H x):Rc s H' x:=by
  induction hx with
  | held h1 h2=>exact .held (h _ h1 h2) h2
  | kid _ h1 h2 ih=>exact .kid ih h1 h2
theorem Stay.mono {a b:Ar} {H H':List Int} (h1:Stay a b H') (h: ∀x∈H,x≠0→x∈H'):Stay a b H:=⟨h1.size,fun x hx=>h1.same x (hx.mono h)⟩
theorem Rep.stay {s s':Ar} {H:List Int} (hs:Stay s s' H) {h:Int} {t:Tr} (hr:Rep s h t) (hh:h≠0→Rc s H h):Rep s' h t:=by
  induction hr with
  | nil=>exact .nil
  | nd h1 h2 _ _ _ _ i0 i1 i2 i3=>
    have hc:=hh (has_ne h1)
    have hm:=fun k hk h0=>Rc.kid (k:=k) hc (by rw [h2];exact hk) h0
    exact .nd (hs.same _ hc).1 ((hs.same _ hc).2.trans h2) (i0 (hm _ kid_mem.1)) (i1 (hm _ kid_mem.2.1)) (i2 (hm _ kid_mem.2.2.1)) (i3 (hm _ kid_mem.2.2.2))
theorem Rep.held {s s':Ar} {H:List Int} (hs:Stay s s' H) {h:Int} {t:Tr} (hr:Rep s h t) (hh:h∈H):Rep s' h t:=hr.stay hs fun h0=> .held hh h0
theorem Inv.pop {s : Ar} {H : List Int} (h : Inv s H) (hl : H.length ≤ 999990) {x : Nat} {l : List Nat} (hw : s.wait = x :: l) :
    Inv (s.pop x l) ((s.node x).kids++H)∧(s.pop x l).busyN+1=s.busyN∧Stay s (s.pop x l) H:=by
  have hW:=h.wq.pop hw
  obtain ⟨x1,x2,xu,xc⟩:=h.wq.mem x (by rw [hw];simp)
  have hc:=h.cnt x x1 x2 xu
  have hr0:s.refs (x:Int)=0:=by omega
  have hH0:(x:Int)∉H:=fun hm=>by have:=List.count_pos_iff.2 hm;omega
  have hk0: ∀m,1≤m→m≤s.size→s.used m=true→(x:Int)∉(s.node m).kids:=fun m a b c hm=>by
    have:=refsTo_pos s.used s.node (x:Int) m a c hm s.size b
    unfold Ar.refs at hr0;omega
  have hrf: ∀m:Nat,refsTo (upd s.used x false) (upd s.node x Nd.zero) (m:Int) s.size+(s.node x).kids.count (m:Int)=s.refs m:=fun m=>by
    have:=refsTo_upd s.used s.node (m:Int) x false Nd.zero x1 s.size x2
    rw [xu] at this
    simp only [Bool.false_eq_true,if_false,if_true,Nat.add_zero] at this
    exact this
  have hue: ∀m,upd s.used x false m=true→m≠x∧s.used m=true:=fun m hm=>by
    by_cases e:m=x
    · rw [e,upd_self] at hm;cases hm
    · rw [upd_ne _ _ _ _ e] at hm;exact ⟨e,hm⟩
  have hhas: ∀y,s.has y=true→y≠(x:Int)→(s.pop x l).has y=true:=fun y hy hyx=>by
    obtain ⟨a,b,c⟩:=has_iff.1 hy
    exact has_iff.2 ⟨a,b,by show upd s.used x false y.toNat=true;rw [upd_ne _ _ _ _ (by omega)];exact c⟩
  have hb:=usedTo_upd s.used x false x1 s.size x2
  rw [xu] at hb
  simp only [Bool.false_eq_true,if_false,if_true,Nat.add_zero] at hb
  obtain ⟨rk,hrk⟩:=h.rank
  refine ⟨⟨hW,by simp [Nd.kids];omega,fun m m1 m2 m3=> ?_,fun m m1 m2 m3 m4=> ?_,fun m m1 m2 m3 k hk1 hk0'=> ?_,fun y hy h0=> ?_,⟨rk,fun m m1 m2 m3 k hk1 hk0'=> ?_⟩,?_⟩,hb,rfl,fun y hy=> ?_⟩
  · obtain ⟨e,mu⟩:=hue m m3
    show s.count m=((refsTo (upd s.used x false) (upd s.node x Nd.zero) (m:Int) s.size+List.count (m:Int) ((s.node x).kids++H):Nat):Int)
    rw [h.cnt m m1 m2 mu,←hrf m,List.count_append];omega
  · obtain ⟨e,mu⟩:=hue m m3
    have:=h.zero m m1 m2 mu m4
    rw [hw] at this
    exact (List.mem_cons.1 this).resolve_left e
  · obtain ⟨e,mu⟩:=hue m m3
    replace hk1:k∈(upd s.node x Nd.zero m).kids:=hk1
    rw [upd_ne _ _ _ _ e] at hk1
    exact hhas k (h.kid m m1 m2 mu k hk1 hk0') fun q=>hk0 m m1 m2 mu (q▸hk1)
  · rcases List.mem_append.1 hy with hy|hy
    · exact hhas y (h.kid x x1 x2 xu y hy h0) fun q=>hk0 x x1 x2 xu (q▸hy)
    · exact hhas y (h.held y hy h0) fun q=>hH0 (q▸hy)
  · obtain ⟨e,mu⟩:=hue m m3
    replace hk1:k∈(upd s.node x Nd.zero m).kids:=hk1
    rw [upd_ne _ _ _ _ e] at hk1
    exact hrk m m1 m2 mu k hk1 hk0'
  · show wrap64 (s.busy - 1)=((usedTo (upd s.used x false) s.size:Nat):Int)
    have h6:=h.wq.small
    have h7:=usedTo_le s.used s.size
    rw [h.busy,IntWalk.wrap64_in _ (by unfold Ar.busyN;omega)]
    unfold Ar.busyN;omega
  · obtain ⟨y1,y2⟩:=h.rc hy
    have hyx:y≠(x:Int):=fun e=>y2 (by rw [e,Ar.cnt_nat x1 x2,xc])
    have hyn:y.toNat≠x:=by have:=(has_iff.1 y1).1;omega
    exact has_get rfl y1 (by show upd s.used x false y.toNat=true;rw [upd_ne _ _ _ _ hyn];exact (has_iff.1 y1).2.2) (upd_ne _ _ _ _ hyn)
theorem Inv.workL {H : List Int} : ∀ (k : Nat) (s : Ar) (most n : Int), Inv s H → H.length ≤ 999980 → s.busyN < k → 0 ≤ n → n + s.busyN ≤ 1000000000000 →
    ∃r,Ar.workL k s most n=some r∧Inv r.2 H∧Stay s r.2 H∧r.2.busyN≤s.busyN∧(n+s.busyN<most→r.2.wait=[])
  | 0,s,most,n,h,_,hk,_,_=>absurd hk (by omega)
  | k+1,s,most,n,h,hl,hk,h0,hn=>by
    unfold Ar.workL
    by_cases hm:most≤n
    · rw [if_pos hm];exact ⟨_,rfl,h,Stay.refl h,Nat.le_refl _,fun hh=>by omega⟩
    rw [if_neg hm]
    cases hw:s.wait with
    | nil=>exact ⟨_,rfl,h,Stay.refl h,Nat.le_refl _,fun _=>hw⟩
    | cons x l=>
      dsimp only
      obtain ⟨h1,h2,h3⟩:=h.pop (by omega) hw
      have h4:=Inv.dropAll h1
      have h5:=(Grow.dropAll (s.node x).kids (s.pop x l))
      have h6:Stay s ((s.pop x l).dropAll (s.node x).kids) H:=⟨h5.size.trans h3.size,fun y hy=>by
        obtain ⟨a,b⟩:=h3.same y hy
        exact ⟨(h5.has a).1,(h5.has a).2.trans b⟩⟩
      have h7:=busyN_dropAll (s.node x).kids (s.pop x l)
      have hw1:wrap64 (n+1)=n+1:=IntWalk.wrap64_in _ (by omega)
      obtain ⟨r,r1,r2,r3,r4,r5⟩:=Inv.workL k ((s.pop x l).dropAll (s.node x).kids) most (n+1) h4 hl (by omega) (by omega) (by omega)
      rw [hw1]
      exact ⟨r,r1,r2,h6.trans r3,by omega,fun hh=>r5 (by omega)⟩
theorem Inv.work {s : Ar} {H : List Int} (h : Inv s H) (hl : H.length ≤ 999980) (most : Int) :
    ∃r,s.work most=some r∧Inv r.2 H∧Stay s r.2 H∧r.2.busyN≤s.busyN∧(6000<most→r.2.wait=[]):=by
  have h6:=h.wq.small
  have h7:=usedTo_le s.used s.size
  obtain ⟨r,r1,r2,r3,r4,r5⟩:=Inv.workL rounds s most 0 h hl (by unfold rounds Ar.busyN;omega) (by omega) (by unfold Ar.busyN;omega)
  exact ⟨r,r1,r2,r3,r4,fun hh=>r5 (by unfold Ar.busyN;omega)⟩
theorem rk_bound (rk:Nat→Nat): ∀d,∃M,∀n,n≤d→rk n≤M
  | 0=>⟨rk 0,fun n h=>by rw [Nat.le_zero.1 h];exact Nat.le_refl _⟩
  | d+1=>by
    obtain ⟨M,h⟩:=rk_bound rk d
    exact ⟨M+rk (d+1),fun n hn=>by
      by_cases e:n=d+1
      · rw [e];omega
      · have:=h n (by omega);omega⟩
theorem Inv.reached {s:Ar} {H:List Int} (h:Inv s H) (hw:s.wait=[]) {x:Int} (hx:s.has x=true):Rc s H x:=by
  obtain ⟨rk,hrk⟩:=h.rank
  obtain ⟨M,hM⟩:=rk_bound rk s.size
  suffices∀d n:Nat,1≤n→n≤s.size→s.used n=true→M - rk n<d→Rc s H n by
    obtain ⟨n,rfl,n1,n2,n3⟩:=has_nat hx
    exact this (M - rk n+1) n n1 n2 n3 (by omega)
  intro d
  induction d with
  | zero=>intro n _ _ _ hd;omega
  | succ d ih=>
    intro n n1 n2 n3 hd
    have hc:=h.cnt n n1 n2 n3
    by_cases hH:(n:Int)∈H
    · exact .held hH (by omega)
    rw [List.count_eq_zero.2 hH] at hc
    have h0:s.refs n≠0:=fun e=>by
      have:=h.zero n n1 n2 n3 (by omega)
      rw [hw] at this;cases this
    have: ∃m,1≤m∧m≤s.size∧s.used m=true∧(n:Int)∈(s.node m).kids:=by
      refine Classical.byContradiction fun hne=>h0 (refsTo_zero _ _ _ _ fun m a b c hm=>hne ⟨m,a,b,c,hm⟩)
    obtain ⟨m,m1,m2,m3,m4⟩:=this
    have hlt:=hrk m m1 m2 m3 n m4 (by omega)
    rw [Int.toNat_natCast] at hlt
    have:=hM m m2
    have hm:=ih m m1 m2 m3 (by omega)
    have hmh:s.has (m:Int)=true:=has_iff.2 ⟨by omega,by omega,by simpa using m3⟩
    exact .kid hm (by rw [get_nat hmh,Int.toNat_natCast];exact m4) (by omega)
theorem usedTo_sub (used:Nat→Bool): ∀(d:Nat) (L:List Nat),(∀n,1≤n→n≤d→used n=true→n∈L)→usedTo used d≤L.length
  | 0,_,_=>Nat.zero_le _
  | d+1,L,h=>by
    unfold usedTo
    by_cases hu:used (d+1)=true
    · have hm:=h (d+1) (by omega) (by omega) hu
      have:=usedTo_sub used d (L.erase (d+1)) fun n a b c=>(List.mem_erase_of_ne (by omega)).2 (h n a (by omega) c)
      rw [List.length_erase_of_mem hm] at this
      have:0<L.length:=List.length_pos_of_mem hm
      rw [if_pos hu];omega
    · rw [if_neg hu];exact usedTo_sub used d L fun n a b c=>h n a (by omega) c
theorem Rep.list {s:Ar} {h:Int} {t:Tr} (hr:Rep s h t): ∃L:List Nat,L.length≤t.size∧(h≠0→h.toNat∈L)∧ ∀n∈L,∀k∈(s.get (n:Int)).kids,k≠0→k.toNat∈L:=by
  induction hr with
  | nil=>exact ⟨[],Nat.le_refl _,fun h=>absurd rfl h,by simp⟩
  | @nd h tag a b k0 k1 k2 k3 t0 t1 t2 t3 h1 h2 _ _ _ _ i0 i1 i2 i3=>
    obtain ⟨L0,a0,b0,c0⟩:=i0
    obtain ⟨L1,a1,b1,c1⟩:=i1
    obtain ⟨L2,a2,b2,c2⟩:=i2
    obtain ⟨L3,a3,b3,c3⟩:=i3
    have hp:=(has_iff.1 h1).1
    refine ⟨h.toNat::(L0++L1++L2++L3),by simp [Tr.size];omega,fun _=>by simp,fun n hn k hk hk0=> ?_⟩
    simp only [List.mem_cons,List.mem_append] at hn⊢
    rcases hn with rfl|((hn|hn)|hn)|hn
    · rw [show ((h.toNat:Nat):Int)=h by omega,h2] at hk
      simp only [Nd.kids,List.mem_cons,List.not_mem_nil,or_false] at hk
      rcases hk with rfl|rfl|rfl|rfl
      · exact .inr (.inl (.inl (.inl (b0 hk0))))
      · exact .inr (.inl (.inl (.inr (b1 hk0))))
      · exact .inr (.inl (.inr (b2 hk0)))
      · exact .inr (.inr (b3 hk0))
    · exact .inr (.inl (.inl (.inl (c0 n hn k hk hk0))))
    · exact .inr (.inl (.inl (.inr (c1 n hn k hk hk0))))
    · exact .inr (.inl (.inr (c2 n hn k hk hk0)))
    · exact .inr (.inr (c3 n hn k hk hk0))
def Reps (s:Ar):List Int→List Tr→Prop
  | [],[]=>True
  | h::H,t::T=>Rep s h t∧Reps s H T
  | _,_=>False
def sizes (T:List Tr):Nat:=(T.map Tr.size).sum
theorem Reps.list {s:Ar}: ∀{H:List Int} {T:List Tr},Reps s H T→ ∃L:List Nat,L.length≤sizes T∧(∀h∈H,h≠0→h.toNat∈L)∧ ∀n∈L,∀k∈(s.get (n:Int)).kids,k≠0→k.toNat∈L
  | [],[],_=>⟨[],Nat.zero_le _,by simp,by simp⟩
  | h::H,t::T,hr=>by
    obtain ⟨L0,a0,b0,c0⟩:=hr.1.list
    obtain ⟨L1,a1,b1,c1⟩:=Reps.list hr.2
    refine ⟨L0++L1,by simp [sizes] at a1⊢;omega,fun x hx h0=> ?_,fun n hn k hk hk0=> ?_⟩
    · rcases List.mem_cons.1 hx with rfl|hx
      · exact List.mem_append.2 (.inl (b0 h0))
      · exact List.mem_append.2 (.inr (b1 x hx h0))
    · rcases List.mem_append.1 hn with hn|hn
      · exact List.mem_append.2 (.inl (c0 n hn k hk hk0))
      · exact List.mem_append.2 (.inr (c1 n hn k hk hk0))
  | [],_::_,h=>h.elim
  | _::_,[],h=>h.elim
theorem Inv.busy_le {s:Ar} {H:List Int} (h:Inv s H) (hw:s.wait=[]) {T:List Tr} (hr:Reps s H T):s.busyN≤sizes T:=by
  obtain ⟨L,hL,hh,hk⟩:=hr.list
  refine Nat.le_trans (usedTo_sub s.used s.size L fun n n1 n2 n3=> ?_) hL
  have hx:=h.reached hw (x:=(n:Int)) (has_iff.2 ⟨by omega,by omega,by simpa using n3⟩)
  have: ∀x,Rc s H x→x.toNat∈L:=fun x hx=>by
    induction hx with
    | held h1 h2=>exact hh _ h1 h2
    | @kid h' k' hq h1 h2 ih=>
      refine hk _ ih _ ?_ h2
      have:=(has_iff.1 (h.rc hq).1).1
      rw [show ((h'.toNat:Nat):Int)=h' by omega];exact h1
  simpa using this _ hx
theorem Inv.busy_same {s s':Ar} {H:List Int} (h:Inv s H) (hw:s.wait=[]) (h':Inv s' H) (hw':s'.wait=[]) (hs:Stay s s' H):s'.busyN=s.busyN:=by
  unfold Ar.busyN
  rw [hs.size]
  refine usedTo_congr _ _ _ fun n n1 n2=> ?_
  have hx: ∀x:Ar,x.size=s.size→x.used n=x.has (n:Int):=fun x hx=>by
    unfold Ar.has
    rw [decide_eq_true (show (1:Int)≤(n:Int) by omega),decide_eq_true (show (n:Int)≤(x.size:Int) by omega)];simp
  rw [hx s rfl,hx s' hs.size]
  cases hc:s.has (n:Int) with
  | true=>exact (hs.same _ (h.reached hw hc)).1
  | false=>
    cases hc':s'.has (n:Int) with
    | false=>rfl
    | true=>rw [(h.rc (hs.rc' (h'.reached hw' hc'))).1] at hc;cases hc
structure Nw (t t':Tb) (h:Int) (H:List Int) (c:Nat):Prop where
  inv:Inv t'.s (h::H)
  grow:Grow t.s t'.s
  bad:t'.e≠0→h=0
  sticky:t.e≠0→t'.e=t.e
  cost:t'.s.busyN≤t.s.busyN+c
  full:t.e=0→t'.e≠0→t'.e=2∧t.s.size<t.s.busyN+c
theorem Nw.mono {t t':Tb} {h:Int} {H:List Int} {c d:Nat} (hn:Nw t t' h H c) (hcd:c≤d):Nw t t' h H d:=
  ⟨hn.inv,hn.grow,hn.bad,hn.sticky,by have:=hn.cost;omega,fun a b=>⟨(hn.full a b).1,by have:=(hn.full a b).2;omega⟩⟩
theorem Nw.trans {t t1 t2:Tb} {h1 h2:Int} {H1 H2:List Int} {c1 c2:Nat} (a:Nw t t1 h1 H1 c1) (b:Nw t1 t2 h2 H2 c2):Nw t t2 h2 H2 (c1+c2):=by
  refine ⟨b.inv,a.grow.trans b.grow,b.bad,fun h=> ?_,by have:=a.cost;have:=b.cost;omega,fun h0 h2'=> ?_⟩
  · have:=a.sticky h;rw [b.sticky (by rw [this];exact h),this]
  · by_cases h1':t1.e=0
    · have:=b.full h1' h2'
      have:=a.cost
      have:=a.grow.size
      exact ⟨by omega,by omega⟩
    · have:=a.full h0 h1'
      have:=b.sticky h1'
      exact ⟨by omega,by omega⟩
theorem Nw.ok {t t':Tb} {h:Int} {H:List Int} {c:Nat} (hn:Nw t t' h H c) (h':t'.e=0):t.e=0:=by
  by_cases e:t.e=0
  · exact e
  · exact absurd (by rw [←hn.sticky e];exact h') e
theorem Nw.counts {t:Tb} {s':Ar} {h:Int} {H:List Int} (hi:Inv s' (h::H)) (hg:Grow t.s s') (hb:s'.busyN=t.s.busyN) (h0:t.e≠0→h=0):Nw t ⟨s',t.e⟩ h H 0:=
  ⟨hi,hg,h0,fun _=>rfl,by show s'.busyN≤_;omega,fun a b=>absurd a b⟩
theorem nodeD_nw {t : Tb} {n : Nd} {l H : List Int} (hI : Inv t.s (l ++ H)) (hl : l.length ≤ 4) (hH : H.length ≤ 999000) (ht : 1 ≤ n.tag ∧ n.tag ≤ 6) (hn : U64 n.a) (hk : t.e = 0 → ∀ k ∈ n.kids, k ≠ 0 → k ∈ l) :
    Nw t (t.nodeD n l).2 (t.nodeD n l).1 H 1∧((t.nodeD n l).2.e=0→t.e=0∧(t.nodeD n l).2.s.has (t.nodeD n l).1=true∧(t.nodeD n l).2.s.get (t.nodeD n l).1=n):=by
  have hd:=Inv.dropAll hI
  have hz:=hd.zero_cons (by omega)
  unfold Tb.nodeD
  by_cases he:t.e=0
  · rw [if_pos he]
    rcases hI.make (by simp;omega) n ht hn (fun k hk1 hk0=>hI.pos (List.mem_append.2 (.inl (hk he k hk1 hk0))) hk0) with ⟨hm,hf⟩|⟨f,f1,f2,fu,m1,m2,m3,m4,m5,m6,m7⟩
    · rw [hm]
      dsimp only
      exact ⟨⟨hz,Grow.dropAll _ _,fun _=>rfl,fun h=>absurd he h,by rw [busyN_dropAll];omega,fun _ _=>⟨rfl,by omega⟩⟩,fun h=>by cases h⟩
    · have hp:Inv (t.s.make n).2.2 (l++((f:Int)::H)):=m3.perm List.perm_middle.symm
      have hg:=Grow.dropAll l (t.s.make n).2.2
      have hfh:(t.s.make n).2.2.has (f:Int)=true:=has_iff.2 ⟨by omega,by rw [m4.size];omega,by simpa using m5⟩
      rw [m1,m2]
      dsimp only
      refine ⟨⟨Inv.dropAll hp,m4.trans hg,fun h=>absurd rfl h,fun h=>absurd he h,by rw [busyN_dropAll];omega,fun _ h=>absurd rfl h⟩,fun _=>⟨he,(hg.has hfh).1,?_⟩⟩
      rw [(hg.has hfh).2,get_nat hfh,Int.toNat_natCast,m6]
  · rw [if_neg he]
    exact ⟨⟨hz,Grow.dropAll _ _,fun _=>rfl,fun _=>rfl,by show (t.s.dropAll l).busyN≤_;rw [busyN_dropAll];omega,fun h=>absurd h he⟩,fun h=>absurd h he⟩
end
section
open Go.RowKit
inductive BitsT (m:Nat):Tr→List Bool→Prop where
  | leaf {l:List Bool}:l≠[]→m≤l.length→l.length≤64→BitsT m (.nd 1 (pack l) l.length .nil .nil .nil .nil) l
  | fork {t0 t1:Tr} {l0 l1:List Bool}:BitsT m t0 l0→BitsT m t1 l1→BitsT m (.nd 2 ((l0++l1).length) ((l0++l1).count true) t0 t1 .nil .nil) (l0++l1)
theorem BitsT.ne {m:Nat} {t:Tr} {l:List Bool} (h:BitsT m t l):l≠[]:=by
  induction h with
  | leaf h1 _ _=>exact h1
  | fork _ _ i0 _=>exact fun e=>i0 (List.append_eq_nil_iff.1 e).1
theorem BitsT.pos {m:Nat} {t:Tr} {l:List Bool} (h:BitsT m t l):1≤l.length:=List.length_pos_iff.2 h.ne
theorem BitsT.mono {m m':Nat} (hm:m'≤m) {t:Tr} {l:List Bool} (h:BitsT m t l):BitsT m' t l:=by
  induction h with
  | leaf h1 h2 h3=>exact .leaf h1 (by omega) h3
  | fork _ _ i0 i1=>exact .fork i0 i1
theorem BitsT.size {t:Tr} {l:List Bool} (h:BitsT 16 t l):8*(t.size+1)≤l.length:=by
  induction h with
  | leaf h1 h2 h3=>simp [Tr.size];omega
  | fork _ _ i0 i1=>simp [Tr.size];omega
theorem BitsT.nd {m:Nat} {t:Tr} {l:List Bool} (h:BitsT m t l):1≤t.size:=by
  cases h<;>simp [Tr.size]
def BitsR (t:Tr) (l:List Bool):Prop:=(t= .nil∧l=[])∨(BitsT 1 t l∧t.size=1)∨BitsT 16 t l
theorem BitsR.cases {t:Tr} {l:List Bool} (h:BitsR t l):(t= .nil∧l=[])∨BitsT 1 t l:=by
  rcases h with h|h|h
  · exact .inl h
  · exact .inr h.1
  · exact .inr (h.mono (by omega))
theorem BitsR.size {t:Tr} {l:List Bool} (h:BitsR t l):8*t.size≤l.length+7:=by
  rcases h with ⟨h, -⟩|h|h
  · subst h;simp [Tr.size]
  · have:=h.1.pos;have:=h.2;omega
  · have:=h.size;omega
theorem unpack_pack (l:List Bool):unpack (pack l) l.length=l:=
  pack_inj (unpack_length _ _) (pack_unpack _ _ (pack_lt l))
theorem rt_pack {l:List Bool} (h:l.length≤64):Rt (pack l) l.length:=⟨by omega,by omega,by simpa using pack_lt l⟩
theorem w64 {x:Int} (h1: -4000000000000000000≤x) (h2:x≤4000000000000000000):wrap64 x=x:=IntWalk.wrap64_in _ (by omega)
theorem w64n (n:Nat) (h:n≤1000000):wrap64 (n:Int)=n:=w64 (by omega) (by omega)
theorem lfB_leaf {l:List Bool} (h:l.length≤64) (k0 k1 k2 k3:Int):lfB ⟨1,k0,k1,k2,k3,pack l,l.length⟩=l∧lfK ⟨1,k0,k1,k2,k3,pack l,l.length⟩=true:=by
  unfold lfB lfK lfL lfOk
  simp only [w64n l.length (by omega),Int.toNat_natCast,rt_pack h,if_true,unpack_pack,decide_true,and_self]
theorem Inv.cpos {s:Ar} {H:List Int} (h:Inv s H) {x:Int} (hx:s.has x=true) (hc:s.cnt x≠0):0<s.cnt x:=by
  obtain ⟨n,rfl,n1,n2,n3⟩:=has_nat hx
  have:=h.cnt n n1 n2 n3
  rw [Ar.cnt_nat n1 n2] at hc⊢
  omega
theorem bIs_nd {s:Ar} {H:List Int} (hI:Inv s H) {m:Nat} {h:Int} {t:Tr} {l:List Bool} (hr:Rep s h t) (hb:BitsT m t l) (hc:s.cnt h≠0):bIs s h=true:=by
  cases hb with
  | leaf h1 h2 h3=>
    obtain ⟨_,_,_,_,hh,hg, -⟩:=hr.get
    simp [bIs,hh,hg,hI.cpos hh hc]
  | fork h1 h2=>
    obtain ⟨_,_,_,_,hh,hg, -⟩:=hr.get
    simp [bIs,hh,hg,hI.cpos hh hc]
theorem has_zero (s:Ar):s.has 0=false:=by simp [Ar.has]
theorem get_zero (s:Ar):s.get 0=Nd.zero:=by unfold Ar.get;rw [has_zero];rfl
theorem bIs_zero (s:Ar):bIs s 0=false:=by simp [bIs,has_zero]
theorem bLen_zero (s:Ar):bLen s 0=0:=by unfold bLen;rw [bIs_zero];rfl
theorem bOnes_zero (s:Ar):bOnes s 0=0:=by unfold bOnes;rw [bIs_zero];rfl
theorem bLen_T {s:Ar} {H:List Int} (hI:Inv s H) {m:Nat} {h:Int} {t:Tr} {l:List Bool} (hr:Rep s h t) (hb:BitsT m t l) (hc:s.cnt h≠0) (hl:l.length≤1000000):bLen s h=l.length:=by
  unfold bLen
  rw [if_pos (bIs_nd hI hr hb hc)]
  cases hb with
  | leaf h1 h2 h3=>
    obtain ⟨_,_,_,_,hh,hg, -⟩:=hr.get
    rw [hg];simp [w64n _ hl]
  | fork h1 h2=>
    obtain ⟨_,_,_,_,hh,hg, -⟩:=hr.get
    rw [hg]
    dsimp only
    rw [if_neg (by omega),w64n _ hl]
theorem rankL_all (l:List Bool) (h:l.length≤1000000):rankL l (wrap64 (l.length:Int))=l.count true:=by
  unfold rankL;rw [w64n _ h,Int.toNat_natCast,List.take_length]
theorem bOnes_T {s:Ar} {H:List Int} (hI:Inv s H) {m:Nat} {h:Int} {t:Tr} {l:List Bool} (hr:Rep s h t) (hb:BitsT m t l) (hc:s.cnt h≠0) (hl:l.length≤1000000):bOnes s h=l.count true:=by
  unfold bOnes
  rw [if_pos (bIs_nd hI hr hb hc)]
  cases hb with
  | leaf h1 h2 h3=>
    obtain ⟨_,_,_,_,hh,hg, -⟩:=hr.get
    rw [hg]
    dsimp only
    rw [if_pos rfl,(lfB_leaf h3 _ _ _ _).1,rankL_all _ hl]
  | @fork t0 t1 l0 l1 h1 h2=>
    obtain ⟨_,_,_,_,hh,hg, -⟩:=hr.get
    rw [hg]
    dsimp only
    have:=List.count_le_length (a:=true) (l:=l0++l1)
    rw [if_neg (by omega),w64n _ (by omega)]
theorem Inv.kids_of {s:Ar} {H:List Int} (hI:Inv s H) {h tag a b k0 k1 k2 k3:Int} (hh:s.has h=true) (hg:s.get h=⟨tag,k0,k1,k2,k3,a,b⟩):(k0≠0→s.cnt k0≠0)∧(k1≠0→s.cnt k1≠0)∧(k2≠0→s.cnt k2≠0)∧(k3≠0→s.cnt k3≠0):=by
  have h4:=fun k hk=>fun h0=>(hI.kid_has (k:=k) hh (by rw [hg];exact hk) h0).2
  exact ⟨h4 _ kid_mem.1,h4 _ kid_mem.2.1,h4 _ kid_mem.2.2.1,h4 _ kid_mem.2.2.2⟩
theorem Rep.ne_of {s:Ar} {h:Int} {m:Nat} {t:Tr} {l:List Bool} (hr:Rep s h t) (hb:BitsT m t l):h≠0:=by
  cases hb<;>exact hr.ne
theorem bGetL_T {s:Ar} {H:List Int} (hI:Inv s H) {m:Nat} {t:Tr} {l:List Bool} (hb:BitsT m t l): ∀{k:Nat} {h i:Int},Rep s h t→s.cnt h≠0→l.length≤1000000→l.length≤k→0≤i→i<l.length→bGetL k s h i=some (l.getD i.toNat false):=by
  induction hb with
  | @leaf l h1 h2 h3=>
    intro k h i hr hc hl hk h0 hi
    obtain ⟨k,rfl⟩: ∃j,k=j+1:=⟨k - 1,by omega⟩
    obtain ⟨_,_,_,_,hh,hg, -⟩:=hr.get
    unfold bGetL
    rw [hg]
    dsimp only
    rw [if_pos rfl,(lfB_leaf h3 _ _ _ _).1]
    simp [getL,h0]
  | @fork t0 t1 l0 l1 b0 b1 i0 i1=>
    intro k h i hr hc hl hk h0 hi
    have p0:=b0.pos;have p1:=b1.pos
    rw [List.length_append] at hl hk hi
    obtain ⟨k,rfl⟩: ∃j,k=j+1:=⟨k - 1,by omega⟩
    obtain ⟨x,y,_,_,hh,hg,r0,r1, -⟩:=hr.get
    obtain ⟨c0,c1, -⟩:=hI.kids_of hh hg
    unfold bGetL
    rw [hg]
    dsimp only
    rw [if_neg (by omega),bLen_T hI r0 b0 (c0 (r0.ne_of b0)) (by omega)]
    by_cases hlow:(l0.length:Int)≤i
    · rw [if_pos hlow,w64 (by omega) (by omega),i1 r1 (c1 (r1.ne_of b1)) (by omega) (by omega) (by omega) (by omega)]
      rw [List.getD_eq_getElem?_getD,List.getD_eq_getElem?_getD,List.getElem?_append_right (by omega)]
      congr 3;omega
    · rw [if_neg hlow,i0 r0 (c0 (r0.ne_of b0)) (by omega) (by omega) (by omega) (by omega)]
      rw [List.getD_eq_getElem?_getD,List.getD_eq_getElem?_getD,List.getElem?_append_left (by omega)]
theorem bRankL_T {s:Ar} {H:List Int} (hI:Inv s H) {m:Nat} {t:Tr} {l:List Bool} (hb:BitsT m t l): ∀{k:Nat} {h i a:Int},Rep s h t→s.cnt h≠0→l.length≤1000000→l.length≤k→0≤i→i≤l.length→0≤a→a+l.length≤2000000→bRankL k s h i a=some (a+((l.take i.toNat).count true:Nat)):=by
  induction hb with
  | @leaf l h1 h2 h3=>
    intro k h i a hr hc hl hk h0 hi ha ha'
    have:=List.length_pos_iff.2 h1
    obtain ⟨k,rfl⟩: ∃j,k=j+1:=⟨k - 1,by omega⟩
    obtain ⟨_,_,_,_,hh,hg, -⟩:=hr.get
    unfold bRankL
    rw [hg]
    dsimp only
    have hcl:=List.count_le_length (a:=true) (l:=l.take i.toNat)
    rw [List.length_take] at hcl
    rw [if_pos rfl,(lfB_leaf h3 _ _ _ _).1]
    unfold rankL
    rw [w64 (by omega) (by omega)]
  | @fork t0 t1 l0 l1 b0 b1 i0 i1=>
    intro k h i a hr hc hl hk h0 hi ha ha'
    have p0:=b0.pos;have p1:=b1.pos
    rw [List.length_append] at hl hk hi ha'
    obtain ⟨k,rfl⟩: ∃j,k=j+1:=⟨k - 1,by omega⟩
    obtain ⟨x,y,_,_,hh,hg,r0,r1, -⟩:=hr.get
    obtain ⟨c0,c1, -⟩:=hI.kids_of hh hg
    have hcl:=List.count_le_length (a:=true) (l:=l0)
    unfold bRankL
    rw [hg]
    dsimp only
    rw [if_neg (by omega),bLen_T hI r0 b0 (c0 (r0.ne_of b0)) (by omega)]
    by_cases hlow:(l0.length:Int)<i
    · rw [if_pos hlow,w64 (x:=i - l0.length) (by omega) (by omega),bOnes_T hI r0 b0 (c0 (r0.ne_of b0)) (by omega),w64 (by omega) (by omega),i1 r1 (c1 (r1.ne_of b1)) (by omega) (by omega) (by omega) (by omega) (by omega) (by omega)]
      rw [List.take_append,List.take_of_length_le (l:=l0) (by omega),List.count_append,show (i - (l0.length:Int)).toNat=i.toNat - l0.length by omega]
      congr 1;omega
    · rw [if_neg hlow,i0 r0 (c0 (r0.ne_of b0)) (by omega) (by omega) (by omega) (by omega) (by omega) (by omega)]
      rw [List.take_append_of_le_length (by omega)]
structure BR (s:Ar) (h:Int) (l:List Bool):Prop where
  ex: ∃t,Rep s h t∧BitsR t l
  live:h≠0→s.cnt h≠0
  short:l.length≤9000
theorem BR.cases {s:Ar} {h:Int} {l:List Bool} (hb:BR s h l):(h=0∧l=[])∨ ∃t,Rep s h t∧BitsT 1 t l∧s.cnt h≠0:=by
  obtain ⟨t,h1,h2⟩:=hb.ex
  rcases h2.cases with ⟨rfl,rfl⟩|h2
  · exact .inl ⟨h1.zero,rfl⟩
  · exact .inr ⟨t,h1,h2,hb.live (h1.ne_of h2)⟩
theorem BR.len {s:Ar} {H:List Int} (hI:Inv s H) {h:Int} {l:List Bool} (hb:BR s h l):bLen s h=l.length:=by
  rcases hb.cases with ⟨rfl,rfl⟩|⟨t,h1,h2,h3⟩
  · exact bLen_zero s
  · exact bLen_T hI h1 h2 h3 (by have:=hb.short;omega)
theorem BR.ones {s:Ar} {H:List Int} (hI:Inv s H) {h:Int} {l:List Bool} (hb:BR s h l):bOnes s h=l.count true:=by
  rcases hb.cases with ⟨rfl,rfl⟩|⟨t,h1,h2,h3⟩
  · exact bOnes_zero s
  · exact bOnes_T hI h1 h2 h3 (by have:=hb.short;omega)
theorem BR.get {s:Ar} {H:List Int} (hI:Inv s H) {h:Int} {l:List Bool} (hb:BR s h l) (i:Int):bGet s h i=if i<0∨(l.length:Int)≤i then some (false,false) else some (l.getD i.toNat false,true):=by
  unfold bGet
  rw [hb.len hI]
  by_cases hi:i<0∨(l.length:Int)≤i
  · rw [if_pos hi,if_pos hi]
  · rw [if_neg hi,if_neg hi]
    have:=hb.short
    rcases hb.cases with ⟨rfl,rfl⟩|⟨t,h1,h2,h3⟩
    · exact absurd hi (by simp only [List.length_nil];omega)
    · rw [bGetL_T hI h2 h1 h3 (by omega) (by unfold rounds;omega) (by omega) (by omega)];rfl
theorem BR.rank {s:Ar} {H:List Int} (hI:Inv s H) {h:Int} {l:List Bool} (hb:BR s h l) (i:Int) (h0:0≤i) (hi:i≤l.length):bRank s h i=some (((l.take i.toNat).count true:Nat):Int):=by
  unfold bRank imin imax
  rw [hb.len hI]
  have hs:=hb.short
  have:(if (if i<0 then 0 else i)<(l.length:Int) then (if i<0 then 0 else i) else (l.length:Int))=i:=by
    rw [if_neg (show¬i<0 by omega)]
    split<;>omega
  rw [this]
  by_cases e:i=0
  · subst e;rw [if_pos rfl];simp
  · rw [if_neg e]
    rcases hb.cases with ⟨rfl,rfl⟩|⟨t,h1,h2,h3⟩
    · simp at hi;omega
    · rw [bRankL_T hI h2 h1 h3 (by omega) (by unfold rounds;omega) h0 hi (by omega) (by omega)]
      congr 1;omega
theorem BR.grow {s s':Ar} {h:Int} {l:List Bool} (hb:BR s h l) (hg:Grow s s') (hc:h≠0→s'.cnt h≠0):BR s' h l:=by
  obtain ⟨t,h1,h2⟩:=hb.ex
  exact ⟨⟨t,h1.grow hg,h2⟩,hc,hb.short⟩
theorem Inv.zeros4 {s:Ar} {H:List Int} (h:Inv s H) (hl:H.length≤999900):Inv s ([0,0,0,0]++H):=
  (((h.zero_cons (by omega)).zero_cons (by simp;omega)).zero_cons (by simp;omega)).zero_cons (by simp;omega)
theorem Inv.zeros2 {s:Ar} {x y:Int} {H:List Int} (h:Inv s (x::y::H)) (hl:H.length≤999900):Inv s ([x,y,0,0]++H):=
  ((h.zero_cons (by simp;omega)).zero_cons (by simp;omega)).perm (by
    have:(([0,0]:List Int)++([x,y]++H)).Perm ([x,y]++([0,0]++H)):=by
      rw [←List.append_assoc,←List.append_assoc]
      exact List.perm_append_comm.append_right H
    exact this)
theorem u64_in {x:Int} (h1:0≤x) (h2:x<18446744073709551616):u64 x=x:=wrap_u64 h1 h2
theorem leaf_T {t : Tb} {H : List Int} (hI : Inv t.s H) (hH : H.length ≤ 990000) {m : Nat} {l : List Bool} (h1 : l ≠ []) (h2 : m ≤ l.length) (h3 : l.length ≤ 64) :
    Nw t (t.leaf l).2 (t.leaf l).1 H 1∧((t.leaf l).2.e=0→ ∃t',Rep (t.leaf l).2.s (t.leaf l).1 t'∧BitsT m t' l∧t'.size=1):=by
  have hp:=pack_lt64 h3
  obtain ⟨a,b⟩:=nodeD_nw (t:=t) (n:=⟨1,0,0,0,0,pack l,l.length⟩) (l:=[0,0,0,0]) (hI.zeros4 (by omega)) (by simp) (by omega) ⟨by dsimp only;omega,by dsimp only;omega⟩ ⟨by show (0:Int)≤(pack l:Int);omega,by show (pack l:Int)<_;omega⟩ (by simp [Nd.kids])
  refine ⟨a,fun he=> ?_⟩
  obtain ⟨-,b2,b3⟩:=b he
  exact ⟨_, .nd b2 b3 .nil .nil .nil .nil, .leaf h1 h2 h3,rfl⟩
theorem pair_T {t : Tb} {x y : Int} {H : List Int} (hI : Inv t.s (x :: y :: H)) (hH : H.length ≤ 990000) {m : Nat} {l0 l1 : List Bool} (hl : (l0 ++ l1).length ≤ 1000000)
    (h:t.e=0→(∃t0,Rep t.s x t0∧BitsT m t0 l0)∧ ∃t1,Rep t.s y t1∧BitsT m t1 l1):
    Nw t (t.pair x y).2 (t.pair x y).1 H 1∧((t.pair x y).2.e=0→ ∃t',Rep (t.pair x y).2.s (t.pair x y).1 t'∧BitsT m t' (l0++l1)):=by
  obtain ⟨a,b⟩:=nodeD_nw (t:=t) (n:=⟨2,x,y,0,0,u64 (wrap64 (bLen t.s x+bLen t.s y)),u64 (wrap64 (bOnes t.s x+bOnes t.s y))⟩) (l:=[x,y,0,0]) (hI.zeros2 (by omega)) (by simp) (by omega) ⟨by dsimp only;omega,by dsimp only;omega⟩ (U64.u64 _) (fun _ k hk h0=>hk)
  refine ⟨a,fun he=> ?_⟩
  obtain ⟨b1,b2,b3⟩:=b he
  obtain ⟨⟨t0,r0,q0⟩,t1,r1,q1⟩:=h b1
  have c0:t.s.cnt x≠0:=hI.pos (by simp) (r0.ne_of q0)
  have c1:t.s.cnt y≠0:=hI.pos (by simp) (r1.ne_of q1)
  rw [List.length_append] at hl
  have hc0:=List.count_le_length (a:=true) (l:=l0)
  have hc1:=List.count_le_length (a:=true) (l:=l1)
  refine ⟨_, .nd b2 ?_ (r0.grow a.grow) (r1.grow a.grow) .nil .nil, .fork q0 q1⟩
  refine b3.trans ?_
  rw [bLen_T hI r0 q0 c0 (by omega),bLen_T hI r1 q1 c1 (by omega),bOnes_T hI r0 q0 c0 (by omega),bOnes_T hI r1 q1 c1 (by omega),w64 (by omega) (by omega),w64 (by omega) (by omega),u64_in (by omega) (by omega),u64_in (by omega) (by omega)]
  simp
theorem drops_nw {t:Tb} {l H:List Int} (hI:Inv t.s (l++H)) (hH:H.length≤990000):Nw t (t.drops l) 0 H 0:=
  ⟨(Inv.dropAll hI).zero_cons (by omega),Grow.dropAll _ _,fun _=>rfl,fun _=>rfl,by show (t.s.dropAll l).busyN≤_;rw [busyN_dropAll];omega,fun a b=>absurd a b⟩
theorem pairOr_T {t : Tb} {x y : Int} {H : List Int} (hI : Inv t.s (x :: y :: H)) (hH : H.length ≤ 990000) {m : Nat} {l0 l1 : List Bool} (hl : (l0 ++ l1).length ≤ 1000000)
    (h:t.e=0→(∃t0,Rep t.s x t0∧BitsT m t0 l0)∧ ∃t1,Rep t.s y t1∧BitsT m t1 l1):
    Nw t (t.pairOr x y).2 (t.pairOr x y).1 H 1∧((t.pairOr x y).2.e=0→ ∃t',Rep (t.pairOr x y).2.s (t.pairOr x y).1 t'∧BitsT m t' (l0++l1)):=by
  unfold Tb.pairOr
  by_cases he:t.e=0
  · rw [if_pos he];exact pair_T hI hH hl h
  · rw [if_neg he]
    exact ⟨(drops_nw (l:=[x,y]) hI hH).mono (by omega),fun h'=>absurd h' he⟩
theorem Inv.swap {s:Ar} {x y:Int} {H:List Int} (h:Inv s (x::y::H)):Inv s (y::x::H):=h.perm (List.Perm.swap _ _ _)
theorem two_T {t : Tb} {H : List Int} (hI : Inv t.s H) (hH : H.length ≤ 980000) {m : Nat} {a b : List Bool} (ha : a ≠ []) (hb : b ≠ []) (ma : m ≤ a.length) (mb : m ≤ b.length) (la : a.length ≤ 64) (lb : b.length ≤ 64) :
    Nw t (t.two a b).2 (t.two a b).1 H 3∧((t.two a b).2.e=0→ ∃t',Rep (t.two a b).2.s (t.two a b).1 t'∧BitsT m t' (a++b)):=by
  show Nw t (((t.leaf a).2.leaf b).2.pairOr (t.leaf a).1 ((t.leaf a).2.leaf b).1).2 (((t.leaf a).2.leaf b).2.pairOr (t.leaf a).1 ((t.leaf a).2.leaf b).1).1 H 3∧_
  obtain ⟨n1,r1⟩:=leaf_T (t:=t) (l:=a) hI (by omega) ha ma la
  obtain ⟨n2,r2⟩:=leaf_T (t:=(t.leaf a).2) (l:=b) n1.inv (by simp;omega) hb mb lb
  obtain ⟨n3,r3⟩:=pairOr_T (m:=m) (l0:=a) (l1:=b) (H:=H) n2.inv.swap (by omega) (by simp;omega) fun he=>by
    obtain ⟨t0,q0,q1, -⟩:=r1 (n2.ok he)
    obtain ⟨t1,q2,q3, -⟩:=r2 he
    exact ⟨⟨t0,q0.grow n2.grow,q1⟩,t1,q2,q3⟩
  exact ⟨(n1.trans n2).trans n3,r3⟩
theorem bHigh_T {s : Ar} {H : List Int} (hI : Inv s H) {m : Nat} {t : Tr} {l : List Bool} (hb : BitsT m t l) : ∀ {k : Nat} {h : Int}, Rep s h t → s.cnt h ≠ 0 → l.length ≤ 1000000 → l.length < k →
    ∃p,bHigh k s h=some p∧1≤p∧p≤l.length∧(p≠1→ ∃a b t0 t1 l0 l1,t= .nd 2 a b t0 t1 .nil .nil∧l=l0++l1∧BitsT m t0 l0∧BitsT m t1 l1):=by
  induction hb with
  | @leaf l h1 h2 h3=>
    intro k h hr hc hl hk
    have:=List.length_pos_iff.2 h1
    obtain ⟨k,rfl⟩: ∃j,k=j+1:=⟨k - 1,by omega⟩
    have hi:=bIs_nd hI hr (.leaf h1 h2 h3) hc
    obtain ⟨_,_,_,_,hh,hg, -⟩:=hr.get
    refine ⟨1,?_,by omega,by omega,fun h=>absurd rfl h⟩
    unfold bHigh
    rw [if_pos hi,hg]
    dsimp only
    rw [if_pos rfl]
  | @fork t0 t1 l0 l1 b0 b1 i0 i1=>
    intro k h hr hc hl hk
    have p0:=b0.pos;have p1:=b1.pos
    rw [List.length_append] at hl hk
    obtain ⟨k,rfl⟩: ∃j,k=j+1:=⟨k - 1,by omega⟩
    have hi:=bIs_nd hI hr (.fork b0 b1) hc
    obtain ⟨x,y,_,_,hh,hg,r0,r1, -⟩:=hr.get
    obtain ⟨c0,c1, -⟩:=hI.kids_of hh hg
    obtain ⟨p,e0,e1,e2, -⟩:=i0 r0 (c0 (r0.ne_of b0)) (by omega) (k:=k) (by omega)
    obtain ⟨q,f0,f1,f2, -⟩:=i1 r1 (c1 (r1.ne_of b1)) (by omega) (k:=k) (by omega)
    have hw:wrap64 (1+imax p q)=1+imax p q:=w64 (by unfold imax;split<;>omega) (by unfold imax;split<;>omega)
    refine ⟨1+imax p q,?_,by unfold imax;split<;>omega,by rw [List.length_append];unfold imax;split<;>omega,fun _=>⟨_,_,_,_,_,_,rfl,rfl,b0,b1⟩⟩
    unfold bHigh
    rw [if_pos hi,hg]
    dsimp only
    rw [if_neg (by omega),e0,f0]
    simp only [Option.bind_some,hw]
theorem opened_T {t : Tb} {x tag a b : Int} {t0 t1 t2 t3 : Tr} {H : List Int} (hI : Inv t.s (x :: H)) (hH : H.length ≤ 990000) (hr : Rep t.s x (.nd tag a b t0 t1 t2 t3)) :
    Inv (t.opened x).s ((t.s.get x).k0::(t.s.get x).k1::H)∧Grow t.s (t.opened x).s∧(t.opened x).s.busyN=t.s.busyN∧(t.opened x).e=t.e∧Rep (t.opened x).s (t.s.get x).k0 t0∧Rep (t.opened x).s (t.s.get x).k1 t1:=by
  obtain ⟨k0,k1,k2,k3,hh,hg,r0,r1, -⟩:=hr.get
  rw [hg]
  dsimp only
  unfold Tb.opened
  rw [hg]
  dsimp only
  have hK: ∀{s:Ar} {R:List Int} {k:Int},Inv s R→R.length≤999990→(k≠0→s.cnt k≠0)→Inv (s.keep k) (k::R):=fun {s R k} h hl hk=>by
    by_cases h0:k=0
    · subst h0;rw [keep_zero];exact h.zero_cons (by omega)
    · exact h.keep (by omega) (hk h0)
  have g1:=Grow.keep t.s k0
  have j1:=hK hI (by simp;omega) (hI.kids_of hh hg).1
  have g2:=Grow.keep (t.s.keep k0) k1
  have j2:=hK j1 (by simp;omega) (j1.kids_of (g1.has hh).1 ((g1.has hh).2.trans hg)).2.1
  have g3:=Grow.drop ((t.s.keep k0).keep k1) x
  have g:=(g1.trans g2).trans g3
  refine ⟨(j2.perm ?_:Inv _ (x::k0::k1::H)).drop,g,by rw [busyN_drop,busyN_keep,busyN_keep],rfl,r0.grow g,r1.grow g⟩
  exact ((List.Perm.swap _ _ _).trans ((List.Perm.swap _ _ _).cons _)).trans ((List.Perm.swap _ _ _))|>.trans (by exact ((List.Perm.refl _)))
end
section
open Go.RowKit
theorem fork_T {t : Tb} {x y : Int} {H : List Int} (hI : Inv t.s (x :: y :: H)) (hH : H.length ≤ 980000) {m : Nat} {l0 l1 : List Bool} (hl : (l0 ++ l1).length ≤ 9900)
    (h:t.e=0→(∃t0,Rep t.s x t0∧BitsT m t0 l0)∧ ∃t1,Rep t.s y t1∧BitsT m t1 l1):
    ∃r,t.fork x y=some r∧Nw t r.2 r.1 H 3∧(r.2.e=0→ ∃t',Rep r.2.s r.1 t'∧BitsT m t' (l0++l1)):=by
  unfold Tb.fork
  by_cases he:t.e=0
  rotate_left
  · rw [if_neg he]
    exact ⟨_,rfl,(drops_nw (l:=[x,y]) hI (by omega)).mono (by omega),fun h'=>absurd h' he⟩
  rw [if_pos he]
  obtain ⟨⟨t0,r0,q0⟩,t1,r1,q1⟩:=h he
  have c0:t.s.cnt x≠0:=hI.pos (by simp) (r0.ne_of q0)
  have c1:t.s.cnt y≠0:=hI.pos (by simp) (r1.ne_of q1)
  rw [List.length_append] at hl
  obtain ⟨p,e0,e1,e2,e3⟩:=bHigh_T hI q0 (k:=rounds) r0 c0 (by omega) (by unfold rounds;omega)
  obtain ⟨q,f0,f1,f2,f3⟩:=bHigh_T hI q1 (k:=rounds) r1 c1 (by omega) (by unfold rounds;omega)
  rw [e0,f0,Option.bind_some,Option.bind_some,w64 (x:=q+1) (by omega) (by omega),w64 (x:=p+1) (by omega) (by omega)]
  by_cases hA:q+1<p
  · rw [if_pos hA]
    obtain ⟨a,b,u,v,lu,lv,rfl,rfl,qu,qv⟩:=e3 (by omega)
    obtain ⟨o1,o2,o3,o4,o5,o6⟩:=opened_T hI (by simp;omega) r0
    rw [List.length_append] at hl
    have cu:(t.opened x).s.cnt (t.s.get x).k0≠0:=o1.pos (by simp) (o5.ne_of qu)
    have cv:(t.opened x).s.cnt (t.s.get x).k1≠0:=o1.pos (by simp) (o6.ne_of qv)
    obtain ⟨pu,g0,g1,g2,g3⟩:=bHigh_T o1 qu (k:=rounds) o5 cu (by omega) (by unfold rounds;omega)
    obtain ⟨pv,j0,j1,j2,j3⟩:=bHigh_T o1 qv (k:=rounds) o6 cv (by omega) (by unfold rounds;omega)
    dsimp only
    rw [g0,j0,Option.bind_some,Option.bind_some]
    have nO:Nw t (t.opened x) (t.s.get x).k0 ((t.s.get x).k1::y::H) 0:=⟨o1,o2,fun e=>absurd (o4.trans he) e,fun e=>absurd he e,by omega,fun _ e=>absurd (o4.trans he) e⟩
    by_cases hB:pv≤pu
    · rw [if_pos hB]
      obtain ⟨n1,s1⟩:=pair_T (t:=t.opened x) (x:=(t.s.get x).k1) (y:=y) (H:=(t.s.get x).k0::H) (m:=m) (l0:=lv) (l1:=l1) (o1.perm ((List.Perm.swap _ _ _).trans ((List.Perm.swap _ _ _).cons _))) (by simp;omega) (by simp;omega) (fun _=>⟨⟨_,o6,qv⟩,_,r1.grow o2,q1⟩)
      obtain ⟨n2,s2⟩:=pair_T (m:=m) (l0:=lu) (l1:=lv++l1) n1.inv.swap (by omega) (by simp;omega) (fun e=>⟨⟨_,o5.grow n1.grow,qu⟩,s1 e⟩)
      exact ⟨_,rfl,((nO.trans n1).trans n2).mono (by omega),fun e=>by rw [List.append_assoc];exact s2 e⟩
    · rw [if_neg hB]
      obtain ⟨a',b',w,z,lw,lz,rfl,rfl,qw,qz⟩:=j3 (by omega)
      obtain ⟨v1,v2,v3,v4,v5,v6⟩:=opened_T (t:=t.opened x) (x:=(t.s.get x).k1) (H:=(t.s.get x).k0::y::H) o1.swap (by simp;omega) o6
      rw [List.length_append] at hl
      obtain ⟨n1,s1⟩:=pair_T (t:=(t.opened x).opened (t.s.get x).k1) (x:=(t.s.get x).k0) (y:=((t.opened x).s.get (t.s.get x).k1).k0) (H:=((t.opened x).s.get (t.s.get x).k1).k1::y::H) (m:=m) (l0:=lu) (l1:=lw)
        (v1.perm (((List.Perm.swap _ _ _).cons _).trans ((List.Perm.swap _ _ _).trans ((List.Perm.refl _).cons _)))) (by simp;omega) (by simp;omega) (fun _=>⟨⟨_,o5.grow v2,qu⟩,_,v5,qw⟩)
      obtain ⟨n2,s2⟩:=pair_T (m:=m) (x:=((t.opened x).s.get (t.s.get x).k1).k1) (y:=y) (H:=(((t.opened x).opened (t.s.get x).k1).pair (t.s.get x).k0 ((t.opened x).s.get (t.s.get x).k1).k0).1::H) (l0:=lz) (l1:=l1) (n1.inv.perm ((List.Perm.swap _ _ _).trans ((List.Perm.swap _ _ _).cons _))) (by simp;omega) (by simp;omega) (fun e=>⟨⟨_,v6.grow n1.grow,qz⟩,_,(r1.grow (o2.trans v2)).grow n1.grow,q1⟩)
      obtain ⟨n3,s3⟩:=pair_T (m:=m) (l0:=lu++lw) (l1:=lz++l1) n2.inv.swap (by omega) (by simp;omega) (fun e=>by
        obtain ⟨z0,z1,z2⟩:=s1 (n2.ok e)
        exact ⟨⟨z0,z1.grow n2.grow,z2⟩,s2 e⟩)
      have nP:Nw (t.opened x) ((t.opened x).opened (t.s.get x).k1) ((t.opened x).s.get (t.s.get x).k1).k0 (((t.opened x).s.get (t.s.get x).k1).k1::(t.s.get x).k0::y::H) 0:=⟨v1,v2,fun e=>absurd (v4.trans (o4.trans he)) e,fun e=>absurd (o4.trans he) e,by omega,fun _ e=>absurd (v4.trans (o4.trans he)) e⟩
      refine ⟨_,rfl,((((nO.trans nP).trans n1).trans n2).trans n3).mono (by omega),fun e=> ?_⟩
      have:=s3 e
      rw [show (lu++(lw++lz))++l1=(lu++lw)++(lz++l1) by simp]
      exact this
  rw [if_neg hA]
  by_cases hA':p+1<q
  · rw [if_pos hA']
    obtain ⟨a,b,u,v,lu,lv,rfl,rfl,qu,qv⟩:=f3 (by omega)
    obtain ⟨o1,o2,o3,o4,o5,o6⟩:=opened_T (x:=y) (H:=x::H) hI.swap (by simp;omega) r1
    rw [List.length_append] at hl
    have cu:(t.opened y).s.cnt (t.s.get y).k0≠0:=o1.pos (by simp) (o5.ne_of qu)
    have cv:(t.opened y).s.cnt (t.s.get y).k1≠0:=o1.pos (by simp) (o6.ne_of qv)
    obtain ⟨pu,g0,g1,g2,g3⟩:=bHigh_T o1 qu (k:=rounds) o5 cu (by omega) (by unfold rounds;omega)
    obtain ⟨pv,j0,j1,j2,j3⟩:=bHigh_T o1 qv (k:=rounds) o6 cv (by omega) (by unfold rounds;omega)
    dsimp only
    rw [j0,g0,Option.bind_some,Option.bind_some]
    have nO:Nw t (t.opened y) (t.s.get y).k0 ((t.s.get y).k1::x::H) 0:=⟨o1,o2,fun e=>absurd (o4.trans he) e,fun e=>absurd he e,by omega,fun _ e=>absurd (o4.trans he) e⟩
    by_cases hB:pu≤pv
    · rw [if_pos hB]
      obtain ⟨n1,s1⟩:=pair_T (t:=t.opened y) (x:=x) (y:=(t.s.get y).k0) (H:=(t.s.get y).k1::H) (m:=m) (l0:=l0) (l1:=lu) (o1.perm (((List.Perm.swap _ _ _).cons _).trans (List.Perm.swap _ _ _))) (by simp;omega) (by simp;omega) (fun _=>⟨⟨_,r0.grow o2,q0⟩,_,o5,qu⟩)
      obtain ⟨n2,s2⟩:=pair_T (m:=m) (l0:=l0++lu) (l1:=lv) n1.inv (by omega) (by simp;omega) (fun e=>⟨s1 e,_,o6.grow n1.grow,qv⟩)
      exact ⟨_,rfl,((nO.trans n1).trans n2).mono (by omega),fun e=>by rw [←List.append_assoc];exact s2 e⟩
    · rw [if_neg hB]
      obtain ⟨a',b',w,z,lw,lz,rfl,rfl,qw,qz⟩:=g3 (by omega)
      obtain ⟨v1,v2,v3,v4,v5,v6⟩:=opened_T (t:=t.opened y) (x:=(t.s.get y).k0) (H:=(t.s.get y).k1::x::H) o1 (by simp;omega) o5
      rw [List.length_append] at hl
      obtain ⟨n1,s1⟩:=pair_T (t:=(t.opened y).opened (t.s.get y).k0) (x:=x) (y:=((t.opened y).s.get (t.s.get y).k0).k0) (H:=((t.opened y).s.get (t.s.get y).k0).k1::(t.s.get y).k1::H) (m:=m) (l0:=l0) (l1:=lw)
        (v1.perm ((((((List.Perm.swap _ _ _).cons _).cons _).trans ((List.Perm.swap _ _ _).cons _)).trans (List.Perm.swap _ _ _)))) (by simp;omega) (by simp;omega) (fun _=>⟨⟨_,(r0.grow o2).grow v2,q0⟩,_,v5,qw⟩)
      obtain ⟨n2,s2⟩:=pair_T (m:=m) (x:=((t.opened y).s.get (t.s.get y).k0).k1) (y:=(t.s.get y).k1) (H:=(((t.opened y).opened (t.s.get y).k0).pair x ((t.opened y).s.get (t.s.get y).k0).k0).1::H) (l0:=lz) (l1:=lv) (n1.inv.perm ((List.Perm.swap _ _ _).trans ((List.Perm.swap _ _ _).cons _))) (by simp;omega) (by simp;omega) (fun e=>⟨⟨_,v6.grow n1.grow,qz⟩,_,(o6.grow v2).grow n1.grow,qv⟩)
      obtain ⟨n3,s3⟩:=pair_T (m:=m) (l0:=l0++lw) (l1:=lz++lv) n2.inv.swap (by omega) (by simp;omega) (fun e=>by
        obtain ⟨z0,z1,z2⟩:=s1 (n2.ok e)
        exact ⟨⟨z0,z1.grow n2.grow,z2⟩,s2 e⟩)
      have nP:Nw (t.opened y) ((t.opened y).opened (t.s.get y).k0) ((t.opened y).s.get (t.s.get y).k0).k0 (((t.opened y).s.get (t.s.get y).k0).k1::(t.s.get y).k1::x::H) 0:=⟨v1,v2,fun e=>absurd (v4.trans (o4.trans he)) e,fun e=>absurd (o4.trans he) e,by omega,fun _ e=>absurd (v4.trans (o4.trans he)) e⟩
      refine ⟨_,rfl,((((nO.trans nP).trans n1).trans n2).trans n3).mono (by omega),fun e=> ?_⟩
      have:=s3 e
      rw [show l0++((lw++lz)++lv)=(l0++lw)++(lz++lv) by simp]
      exact this
  rw [if_neg hA']
  obtain ⟨n1,s1⟩:=pair_T (t:=t) (x:=x) (y:=y) (H:=H) (m:=m) (l0:=l0) (l1:=l1) hI (by omega) (by simp;omega) (fun _=>⟨⟨_,r0,q0⟩,_,r1,q1⟩)
  exact ⟨_,rfl,n1.mono (by omega),s1⟩
theorem insL_length' (l:List Bool) (i:Nat) (b:Bool) (h:i≤l.length):(insL l i b).length=l.length+1:=by
  unfold insL;simp;omega
theorem insL_left (a b:List Bool) (i:Nat) (x:Bool) (h:i≤a.length):insL (a++b) i x=insL a i x++b:=by
  unfold insL
  rw [List.take_append_of_le_length h,List.drop_append_of_le_length h];simp
theorem insL_right (a b:List Bool) (i:Nat) (x:Bool) (h:a.length≤i):insL (a++b) i x=a++insL b (i - a.length) x:=by
  unfold insL
  rw [List.take_append,List.drop_append,List.take_of_length_le h,List.drop_of_length_le h];simp
theorem insR_in {l:List Bool} {i:Int} (one:Bool) (h0:0≤i) (hi:i≤l.length) (hl:l.length<64):insOk true l i=true∧insR true l i one=insL l i.toNat one:=by
  have:insOk true l i=true:=by unfold insOk;simp [h0,hi];omega
  refine ⟨this,?_⟩
  unfold insR;rw [if_pos this]
theorem ins_leaf {s : Ar} {H : List Int} (hI : Inv s H) (hH : H.length ≤ 980000) {m : Nat} (hm : m ≤ 32) {h : Int} {l : List Bool} (hr : Rep s h (.nd 1 (pack l) l.length .nil .nil .nil .nil)) (hne : l ≠ []) (hml : m ≤ l.length) (h64 : l.length ≤ 64) (hc : s.cnt h ≠ 0)
    (k:Nat) (i:Int) (one:Bool) (h0:0≤i) (hi:i≤l.length):
    ∃r,Tb.insert (k+1) ⟨s,0⟩ h i one=some r∧Nw ⟨s,0⟩ r.2 r.1 H 3∧(r.2.e=0→ ∃t',Rep r.2.s r.1 t'∧BitsT m t' (insL l i.toNat one)∧(l.length<64→t'.size=1)∧(l.length=64→BitsT 32 t' (insL l i.toNat one))):=by
  have hb:=bIs_nd hI hr (.leaf hne hml h64) hc
  obtain ⟨ka,kb,kc,kd,hh,hg, -⟩:=hr.get
  obtain ⟨lb,lk⟩:=lfB_leaf h64 ka kb kc kd
  unfold Tb.insert
  rw [if_pos hb,hg]
  dsimp only
  rw [if_pos rfl,lb,lk]
  have hlen:=insL_length' l i.toNat one (by omega)
  by_cases hf:l.length<64
  · obtain ⟨i1,i2⟩:=insR_in one h0 hi hf
    rw [if_pos i1,i2]
    obtain ⟨n1,s1⟩:=leaf_T (t:=⟨s,0⟩) (H:=H) (m:=m) (l:=insL l i.toNat one) hI (by omega) (by intro e;rw [e] at hlen;simp at hlen) (by omega) (by omega)
    refine ⟨_,rfl,n1.mono (by omega),fun e=> ?_⟩
    obtain ⟨t',a,b,c⟩:=s1 e
    exact ⟨t',a,b,fun _=>c,fun h=>by omega⟩
  · have hno:insOk true l i=false:=by unfold insOk;simp;omega
    rw [if_neg (by rw [hno];decide)]
    have hta:(l.take 32).length=32:=by rw [List.length_take];omega
    have htb:(l.drop 32).length=32:=by rw [List.length_drop];omega
    have hcat:l=l.take 32++l.drop 32:=(List.take_append_drop 32 l).symm
    rw [hta]
    have hnn: ∀x:List Bool,1≤x.length→x≠[]:=fun x hx e=>by rw [e] at hx;simp at hx
    by_cases hs:i≤((32:Nat):Int)
    · rw [if_pos hs,(insR_in one h0 (by omega) (by omega)).2]
      have hla:=insL_length' (l.take 32) i.toNat one (by omega)
      obtain ⟨n1,s1⟩:=two_T (t:=⟨s,0⟩) (H:=H) (m:=32) (a:=insL (l.take 32) i.toNat one) (b:=l.drop 32) hI (by omega) (hnn _ (by omega)) (hnn _ (by omega)) (by omega) (by omega) (by omega) (by omega)
      have heq:insL l i.toNat one=insL (l.take 32) i.toNat one++l.drop 32:=by
        rw [←insL_left _ _ _ _ (by omega),←hcat]
      refine ⟨_,rfl,n1,fun e=> ?_⟩
      obtain ⟨t',a,b⟩:=s1 e
      rw [heq]
      exact ⟨t',a,b.mono hm,fun h=>by omega,fun _=>b⟩
    · rw [if_neg hs,w64 (by omega) (by omega),(insR_in one (by omega) (by omega) (by omega)).2]
      have hla:=insL_length' (l.drop 32) (i - ((32:Nat):Int)).toNat one (by omega)
      obtain ⟨n1,s1⟩:=two_T (t:=⟨s,0⟩) (H:=H) (m:=32) (a:=l.take 32) (b:=insL (l.drop 32) (i - ((32:Nat):Int)).toNat one) hI (by omega) (hnn _ (by omega)) (hnn _ (by omega)) (by omega) (by omega) (by omega) (by omega)
      have heq:insL l i.toNat one=l.take 32++insL (l.drop 32) (i - ((32:Nat):Int)).toNat one:=by
        rw [show (i - ((32:Nat):Int)).toNat=i.toNat - (l.take 32).length by omega,←insL_right _ _ _ _ (by omega),←hcat]
      refine ⟨_,rfl,n1,fun e=> ?_⟩
      obtain ⟨t',a,b⟩:=s1 e
      rw [heq]
      exact ⟨t',a,b.mono hm,fun h=>by omega,fun _=>b⟩
theorem Nw.keepL {s:Ar} {x:Int} {e:Int} {t':Tb} {h:Int} {H:List Int} {c:Nat} (hn:Nw ⟨s.keep x,e⟩ t' h H c):Nw ⟨s,e⟩ t' h H c:=
  ⟨hn.inv,(Grow.keep s x).trans hn.grow,hn.bad,hn.sticky,by have:=hn.cost;rw [busyN_keep] at this;exact this,fun a b=>by have:=hn.full a b;rw [busyN_keep,Ar.keep_size] at this;exact this⟩
theorem Nw.keepR {t t':Tb} {x h:Int} {H:List Int} {c:Nat} (hn:Nw t t' h H c) (hH:H.length≤990000) (hx:x≠0→t'.s.cnt x≠0):Nw t (t'.keep x) h (x::H) c:=by
  have hi:Inv (t'.s.keep x) (x::h::H):=by
    by_cases h0:x=0
    · subst h0;rw [keep_zero];exact hn.inv.zero_cons (by simp;omega)
    · exact hn.inv.keep (by simp;omega) (hx h0)
  exact ⟨hi.swap,hn.grow.trans (Grow.keep _ _),hn.bad,hn.sticky,by show (t'.s.keep x).busyN≤_;rw [busyN_keep];exact hn.cost,hn.full⟩
theorem insert_T {m : Nat} (hm : m ≤ 32) {t : Tr} {l : List Bool} (hb : BitsT m t l) : ∀ {k : Nat} {s : Ar} {H : List Int} {h i : Int} (one : Bool), Inv s H → Rep s h t → s.cnt h ≠ 0 → l.length ≤ 9000 → l.length ≤ k → H.length + l.length ≤ 970000 → 0 ≤ i → i ≤ l.length →
    ∃r,Tb.insert k ⟨s,0⟩ h i one=some r∧Nw ⟨s,0⟩ r.2 r.1 H (3*t.size)∧(r.2.e=0→ ∃t',Rep r.2.s r.1 t'∧BitsT m t' (insL l i.toNat one)):=by
  induction hb with
  | @leaf l h1 h2 h3=>
    intro k s H h i one hI hr hc hl hk hH h0 hi
    have:=List.length_pos_iff.2 h1
    obtain ⟨k,rfl⟩: ∃j,k=j+1:=⟨k - 1,by omega⟩
    obtain ⟨r,a,b,c⟩:=ins_leaf hI (by omega) hm hr h1 h2 h3 hc k i one h0 hi
    refine ⟨r,a,b.mono (by simp [Tr.size]),fun e=> ?_⟩
    obtain ⟨t',x,y, -⟩:=c e
    exact ⟨t',x,y⟩
  | @fork t0 t1 l0 l1 b0 b1 i0 i1=>
    intro k s H h i one hI hr hc hl hk hH h0 hi
    have p0:=b0.pos;have p1:=b1.pos
    have hbi:=bIs_nd hI hr (.fork b0 b1) hc
    rw [List.length_append] at hl hk hi hH
    obtain ⟨k,rfl⟩: ∃j,k=j+1:=⟨k - 1,by omega⟩
    obtain ⟨x,y,_,_,hh,hg,r0,r1, -⟩:=hr.get
    obtain ⟨c0,c1, -⟩:=hI.kids_of hh hg
    have x0:=r0.ne_of b0;have y0:=r1.ne_of b1
    unfold Tb.insert
    rw [if_pos hbi,hg]
    dsimp only
    rw [if_neg (by omega),bLen_T hI r0 b0 (c0 x0) (by omega)]
    by_cases hlow:(l0.length:Int)<i
    · rw [if_pos hlow,w64 (by omega) (by omega)]
      show∃r,((Tb.insert k ⟨s.keep x,0⟩ y (i - l0.length) one).bind fun r=>r.2.fork x r.1)=some r∧_
      have g1:=Grow.keep s x
      have j1:=hI.keep (by omega) (c0 x0)
      have c1':=(j1.kids_of (g1.has hh).1 ((g1.has hh).2.trans hg)).2.1 y0
      obtain ⟨r,a,b,c⟩:=i1 (k:=k) (i:=i - l0.length) one j1 (r1.grow g1) c1' (by omega) (by omega) (by simp;omega) (by omega) (by omega)
      rw [a,Option.bind_some]
      have hlen:=insL_length' l1 (i - (l0.length:Int)).toNat one (by omega)
      obtain ⟨r',a',b',c'⟩:=fork_T (t:=r.2) (x:=x) (y:=r.1) (H:=H) (m:=m) (l0:=l0) (l1:=insL l1 (i - l0.length).toNat one) b.inv.swap (by omega) (by rw [List.length_append];omega) (fun e=>⟨⟨_,(r0.grow g1).grow b.grow,b0⟩,c e⟩)
      refine ⟨r',a',(b.keepL.trans b').mono (by simp only [Tr.size];omega),fun e=> ?_⟩
      rw [insL_right _ _ _ _ (by omega),show i.toNat - l0.length=(i - (l0.length:Int)).toNat by omega]
      exact c' e
    · rw [if_neg hlow]
      obtain ⟨r,a,b,c⟩:=i0 (k:=k) one hI r0 (c0 x0) (by omega) (by omega) (by omega) h0 (by omega)
      rw [a,Option.bind_some]
      have hlen:=insL_length' l0 i.toNat one (by omega)
      have hk1:=b.inv.kids_of (b.grow.has hh).1 ((b.grow.has hh).2.trans hg)
      have b1':=b.keepR (x:=y) (by omega) hk1.2.1
      obtain ⟨r',a',b',c'⟩:=fork_T (t:=r.2.keep y) (x:=r.1) (y:=y) (H:=H) (m:=m) (l0:=insL l0 i.toNat one) (l1:=l1) b1'.inv (by omega) (by rw [List.length_append];omega) (fun e=>by
        obtain ⟨t',z1,z2⟩:=c e
        exact ⟨⟨t',z1.grow (Grow.keep _ _),z2⟩,_,(r1.grow b.grow).grow (Grow.keep _ _),b1⟩)
      refine ⟨r',a',(b1'.trans b').mono (by simp only [Tr.size];omega),fun e=> ?_⟩
      rw [insL_left _ _ _ _ (by omega)]
      exact c' e
structure Rs (s:Ar) (r:Int×Int×Ar) (H:List Int) (c:Nat) (P:Tr→Prop):Prop where
  inv:Inv r.2.2 (r.1::H)
  grow:Grow s r.2.2
  cost:r.2.2.busyN≤s.busyN+c
  res:(r.2.1=0∧ ∃t',Rep r.2.2 r.1 t'∧P t')∨(r.2.1=2∧r.1=0∧s.size<s.busyN+c)
theorem Rs.mono {s:Ar} {r:Int×Int×Ar} {H:List Int} {c d:Nat} {P:Tr→Prop} (h:Rs s r H c P) (hcd:c≤d):Rs s r H d P:=
  ⟨h.inv,h.grow,by have:=h.cost;omega,h.res.imp id fun x=>⟨x.1,x.2.1,by omega⟩⟩
theorem told_rs {s:Ar} {r:Int×Tb} {H:List Int} {c:Nat} {P:Tr→Prop} (hn:Nw ⟨s,0⟩ r.2 r.1 H c) (hp:r.2.e=0→ ∃t',Rep r.2.s r.1 t'∧P t'):Rs s (Tb.told r) H c P:=by
  unfold Tb.told
  by_cases he:r.2.e=0
  · rw [if_pos he]
    exact ⟨hn.inv,hn.grow,hn.cost, .inl ⟨rfl,hp he⟩⟩
  · rw [if_neg he]
    have hb:=hn.bad he
    have hi:=hn.inv
    rw [hb] at hi
    exact ⟨hi,hn.grow,hn.cost, .inr ⟨(hn.full rfl he).1,rfl,(hn.full rfl he).2⟩⟩
theorem bInsert_R {s : Ar} {H : List Int} (hI : Inv s H) (hH : H.length ≤ 900000) {h : Int} {l : List Bool} (hb : BR s h l) (i : Int) (one : Bool) (h0 : 0 ≤ i) (hi : i ≤ l.length) :
    ∃r,bInsert s h i one=some r∧Rs s r H (l.length+3) fun t=>BitsR t (insL l i.toNat one):=by
  have hs:=hb.short
  unfold bInsert
  rw [hb.len hI,if_neg (by omega)]
  have hlen:=insL_length' l i.toNat one (by omega)
  obtain ⟨t,hr,hR⟩:=hb.ex
  rcases hR with ⟨rfl,rfl⟩|⟨hR,hsz⟩|hR
  · obtain rfl:=hr.zero
    obtain ⟨n1,s1⟩:=leaf_T (t:=⟨s,0⟩) (H:=H) (m:=1) (l:=[one]) hI (by omega) (by simp) (by simp) (by simp)
    have e1:Tb.insert rounds ⟨s,0⟩ 0 i one=some (Tb.leaf ⟨s,0⟩ [one]):=by
      rw [show rounds=9999+1 from rfl]
      unfold Tb.insert
      rw [if_neg (by rw [bIs_zero];decide)]
      rfl
    rw [e1]
    refine ⟨_,rfl,(told_rs n1 fun e=> ?_).mono (by omega)⟩
    obtain ⟨t',a,b,c⟩:=s1 e
    refine ⟨t',a, .inr (.inl ⟨?_,c⟩)⟩
    have:i.toNat=0:=by simp at hi;omega
    rw [this];exact b
  · cases hR with
    | leaf h1 h2 h3=>
      obtain ⟨r,a,b,c⟩:=ins_leaf hI (by omega) (m:=1) (by omega) hr h1 h2 h3 (hb.live hr.ne) 9999 i one h0 hi
      rw [show rounds=9999+1 from rfl,a]
      refine ⟨_,rfl,(told_rs b fun e=> ?_).mono (by omega)⟩
      obtain ⟨t',x,y,z,z'⟩:=c e
      refine ⟨t',x, .inr ?_⟩
      by_cases hf:l.length<64
      · exact .inl ⟨y,z hf⟩
      · exact .inr ((z' (by omega)).mono (by omega))
    | fork h1 h2=>
      have:=h1.nd;simp [Tr.size] at hsz;have:=h2.nd;omega
  · obtain ⟨r,a,b,c⟩:=insert_T (m:=16) (by omega) hR (k:=rounds) one hI hr (hb.live (hr.ne_of hR)) (by omega) (by unfold rounds;omega) (by omega) h0 hi
    rw [a]
    have:=hR.size
    refine ⟨_,rfl,(told_rs b fun e=> ?_).mono (by omega)⟩
    obtain ⟨t',x,y⟩:=c e
    exact ⟨t',x, .inr (.inr y)⟩
end
section
open Go.RowKit
def insA {α:Type} (l:List α) (i:Nat) (x:α):List α:=l.take i++x::l.drop i
theorem insA_length {α:Type} (l:List α) (i:Nat) (x:α) (h:i≤l.length):(insA l i x).length=l.length+1:=by unfold insA;simp;omega
theorem insA_map {α:Type} (f:α→Bool) (l:List α) (i:Nat) (x:α):(insA l i x).map f=insL (l.map f) i (f x):=by unfold insA insL;simp [List.map_take,List.map_drop]
theorem insA_filter_in {α:Type} (p:α→Bool) (l:List α) (i:Nat) (x:α) (hp:p x=true):(insA l i x).filter p=insA (l.filter p) ((l.take i).filter p).length x:=by
  have hs:(l.take i).filter p++(l.drop i).filter p=l.filter p:=by rw [←List.filter_append,List.take_append_drop]
  unfold insA
  rw [List.filter_append,List.filter_cons_of_pos hp,←hs,List.take_left',List.drop_left']
  · rfl
  · rfl
theorem insA_filter_out {α:Type} (p:α→Bool) (l:List α) (i:Nat) (x:α) (hp:p x=false):(insA l i x).filter p=l.filter p:=by
  unfold insA
  rw [List.filter_append,List.filter_cons_of_neg (by rw [hp];decide),←List.filter_append,List.take_append_drop]
theorem filter_take {α:Type} (p:α→Bool) (l:List α) (i:Nat):(l.filter p).take ((l.take i).filter p).length=(l.take i).filter p:=by
  have hs:(l.take i).filter p++(l.drop i).filter p=l.filter p:=by rw [←List.filter_append,List.take_append_drop]
  rw [←hs,List.take_left'];rfl
theorem filter_at {α:Type} (p:α→Bool) (l:List α) (i:Nat) (x:α) (hx:l[i]? =some x) (hp:p x=true):(l.filter p)[((l.take i).filter p).length]? =some x:=by
  have hs:(l.take i).filter p++(l.drop i).filter p=l.filter p:=by rw [←List.filter_append,List.take_append_drop]
  obtain ⟨h1,h2⟩:=List.getElem?_eq_some_iff.1 hx
  rw [←hs,List.getElem?_append_right (Nat.le_refl _),Nat.sub_self,List.drop_eq_getElem_cons h1,h2,List.filter_cons_of_pos hp];rfl
def bitD (d:Nat) (x:Int):Bool:=symBit x (8 - (d:Int))
theorem bitD_eq {d:Nat} (hd:d≤8) {x:Int} (h0:0≤x) (h1:x<257):bitD d x=x.toNat.testBit d:=by
  unfold bitD symBit
  rw [show ((8:Int) - (8 - (d:Int))).toNat=d by omega]
  simp [h0,h1];omega
def F (d:Nat) (b:Bool) (l:List Int):List Int:=l.filter fun x=>bitD d x==b
inductive WaveT:Nat→Tr→List Int→Prop where
  | none {l:List Int}:WaveT 0 .nil l
  | nil {d:Nat}:WaveT (d+1) .nil []
  | node {d:Nat} {tb t0 t1:Tr} {l:List Int}:l≠[]→BitsR tb (l.map (bitD d))→WaveT d t0 (F d false l)→WaveT d t1 (F d true l)→WaveT (d+1) (.nd 3 0 0 tb t0 t1 .nil) l
theorem WaveT.empty: ∀d,WaveT d .nil []
  | 0=> .none
  | _+1=> .nil
def Sy (l:List Int):Prop:= ∀x∈l,0≤x∧x<257
theorem Sy.f {l:List Int} (h:Sy l) (d:Nat) (b:Bool):Sy (F d b l):=fun x hx=>h x (List.mem_filter.1 hx).1
theorem F_split (d:Nat) (l:List Int):(F d false l).length+(F d true l).length=l.length:=by
  unfold F
  induction l with
  | nil=>rfl
  | cons x l ih=>
    cases hb:bitD d x<;>simp only [List.filter_cons,hb,List.length_cons,beq_self_eq_true,if_true]<;>simp<;>simp at ih<;>omega
theorem F_le (d:Nat) (b:Bool) (l:List Int):(F d b l).length≤l.length:=List.length_filter_le _ _
theorem count_F (d:Nat) (b:Bool) (l:List Int):(l.map (bitD d)).count b=(F d b l).length:=by
  unfold F
  rw [List.count,List.countP_map,List.countP_eq_length_filter];rfl
structure WR (s:Ar) (d:Nat) (h:Int) (l:List Int):Prop where
  ex: ∃t,Rep s h t∧WaveT d t l
  live:h≠0→s.cnt h≠0
  short:l.length≤9000
  sy:Sy l
theorem WR.kids {s:Ar} {H:List Int} (hI:Inv s H) {d:Nat} {h:Int} {l:List Int} (hw:WR s (d+1) h l):BR s (s.get h).k0 (l.map (bitD d))∧ ∀b,WR s d ((s.get h).kid b) (F d b l):=by
  obtain ⟨t,hr,ht⟩:=hw.ex
  cases ht with
  | nil=>
    obtain rfl:=hr.zero
    rw [get_zero]
    refine ⟨⟨⟨.nil, .nil, .inl ⟨rfl,rfl⟩⟩,fun h=>absurd rfl h,by simp⟩,fun b=>⟨⟨.nil,?_,WaveT.empty d⟩,fun h=> ?_,by simp [F],fun x hx=>by simp [F] at hx⟩⟩
    · cases b<;>exact .nil
    · cases b<;>exact absurd rfl h
  | @node _ tb t0 t1 _ hne hB h0 h1=>
    obtain ⟨k0,k1,k2,k3,hh,hg,r0,r1,r2, -⟩:=hr.get
    obtain ⟨c0,c1,c2, -⟩:=hI.kids_of hh hg
    rw [hg]
    have hs:=hw.short
    refine ⟨⟨⟨tb,r0,hB⟩,c0,by simp;omega⟩,fun b=> ?_⟩
    have:=F_le d b l
    cases b with
    | false=>exact ⟨⟨t0,r1,h0⟩,c1,by omega,hw.sy.f _ _⟩
    | true=>exact ⟨⟨t1,r2,h1⟩,c2,by omega,hw.sy.f _ _⟩
theorem WR.len {s:Ar} {H:List Int} (hI:Inv s H) {d:Nat} {h:Int} {l:List Int} (hw:WR s (d+1) h l):wLen s h=l.length:=by
  unfold wLen
  rw [(hw.kids hI).1.len hI,List.length_map]
theorem wt_count_both (l:List Bool):l.count true+l.count false=l.length:=by
  induction l with
  | nil=>rfl
  | cons b l ih=>cases b<;>simp<;>omega
theorem pow2_le: ∀n,n≤8→(2:Int) ^ n≤512:=by decide
theorem alike_T {s:Ar} {H:List Int} (hI:Inv s H) {h:Int} {m:List Bool} (hb:BR s h m) (i:Int) (b:Bool) (h0:0≤i) (hi:i≤m.length):wAlike s h i b=some (((m.take i.toNat).count b:Nat):Int):=by
  unfold wAlike
  have hl:=hb.len hI
  have hs:=hb.short
  have hc:imin (imax i 0) (bLen s h)=i:=by
    unfold imin imax;rw [hl,if_neg (show¬i<0 by omega)];split<;>omega
  rw [hc,hb.rank hI i h0 hi,Option.map_some]
  have h2:(m.take i.toNat).count true+(m.take i.toNat).count false=i.toNat:=by
    rw [wt_count_both,List.length_take];omega
  cases b with
  | true=>rfl
  | false=>
    rw [if_neg (by decide),w64 (by omega) (by omega)]
    congr 1;omega
theorem alike_F {s:Ar} {H:List Int} (hI:Inv s H) {d:Nat} {h:Int} {l:List Int} (hb:BR s h (l.map (bitD d))) (i:Int) (b:Bool) (h0:0≤i) (hi:i≤l.length):wAlike s h i b=some (((F d b (l.take i.toNat)).length:Nat):Int):=by
  rw [alike_T hI hb i b h0 (by simpa using hi),←List.map_take,count_F]
theorem mod_bit (x d:Nat):x % 2 ^ (d+1)=x % 2 ^ d+2 ^ d*(x.testBit d).toNat:=by
  rw [Nat.testBit_eq_decide_div_mod_eq,Nat.pow_succ,Nat.mod_mul]
  rcases Nat.mod_two_eq_zero_or_one (x/2 ^ d) with h|h<;>simp [h]
theorem wGetL_T {s : Ar} {H : List Int} (hI : Inv s H) : ∀ {d : Nat} {h : Int} {l : List Int} {i x : Int}, WR s d h l → d ≤ 9 → 0 ≤ i → ∀ y, l[i.toNat]? = some y → 0 ≤ x → x < 2 ^ (9 - d) →
    wGetL d s h i x=some (x*2 ^ d+((y.toNat % 2 ^ d:Nat):Int))
  | 0,h,l,i,x,hw,hd,h0,y,hy,hx,hx'=>by unfold wGetL;simp [Nat.mod_one]
  | d+1,h,l,i,x,hw,hd,h0,y,hy,hx,hx'=>by
    obtain ⟨hb,hk⟩:=hw.kids hI
    obtain ⟨hil,hyl⟩:=List.getElem?_eq_some_iff.1 hy
    obtain ⟨y0,y1⟩:=hw.sy y (hyl▸List.getElem_mem hil)
    have h2:(2:Int) ^ (9 - d)=2*2 ^ (9 - (d+1)):=by rw [show 9 - d=(9 - (d+1))+1 by omega,Int.pow_succ];omega
    have h3:=pow2_le (9 - (d+1)) (by omega)
    unfold wGetL
    rw [hb.get hI,if_neg (by rw [List.length_map];omega),Option.bind_some]
    have hg:(l.map (bitD d)).getD i.toNat false=bitD d y:=by rw [List.getD_eq_getElem?_getD,List.getElem?_map,hy];rfl
    dsimp only
    rw [hg,alike_F hI hb i _ h0 (by omega),Option.bind_some]
    have hat:(F d (bitD d y) l)[(F d (bitD d y) (l.take i.toNat)).length]? =some y:=filter_at _ l i.toNat y hy (by simp)
    have hbt:=bitD_eq (d:=d) (by omega) y0 y1
    have hm:=mod_bit y.toNat d
    have hp:(2:Int) ^ (d+1)=2*2 ^ d:=by rw [Int.pow_succ];omega
    cases hbb:bitD d y with
    | false=>
      rw [hbb] at hat
      rw [if_neg (by decide),w64 (x:=x*2) (by omega) (by omega)]
      rw [wGetL_T hI (x:=x*2) (hk false) (by omega) (by omega) y (by rw [Int.toNat_natCast];exact hat) (by omega) (by omega)]
      rw [hbb] at hbt
      rw [←hbt] at hm
      simp only [Bool.toNat_false,Nat.mul_zero,Nat.add_zero] at hm
      rw [hm,hp,Int.mul_assoc]
    | true=>
      rw [hbb] at hat
      rw [if_pos rfl,w64 (x:=x*2) (by omega) (by omega),w64 (x:=x*2+1) (by omega) (by omega)]
      rw [wGetL_T hI (x:=x*2+1) (hk true) (by omega) (by omega) y (by rw [Int.toNat_natCast];exact hat) (by omega) (by omega)]
      rw [hbb] at hbt
      rw [←hbt] at hm
      simp only [Bool.toNat_true,Nat.mul_one] at hm
      have h4:(((2:Nat) ^ d:Nat):Int)=(2:Int) ^ d:=by rw [Int.natCast_pow];rfl
      rw [hm,hp,Int.add_mul,Int.mul_assoc,Int.natCast_add,h4]
      congr 1
      generalize x*(2*2 ^ d)=A
      generalize (2:Int) ^ d=B
      omega
theorem WR.get {s:Ar} {H:List Int} (hI:Inv s H) {h:Int} {l:List Int} (hw:WR s 9 h l) (i:Int):wGet s h i=if i<0∨(l.length:Int)≤i then some (0,false) else some (l.getD i.toNat 0,true):=by
  unfold wGet
  rw [hw.len hI]
  by_cases hi:i<0∨(l.length:Int)≤i
  · rw [if_pos hi,if_pos hi]
  · rw [if_neg hi,if_neg hi]
    obtain ⟨y,hy⟩: ∃y,l[i.toNat]? =some y:=⟨_,List.getElem?_eq_getElem (by omega)⟩
    obtain ⟨hil,hyl⟩:=List.getElem?_eq_some_iff.1 hy
    obtain ⟨y0,y1⟩:=hw.sy y (hyl▸List.getElem_mem hil)
    rw [wGetL_T hI hw (by omega) (by omega) y hy (by omega) (by decide),List.getD_eq_getElem?_getD,hy]
    simp only [Option.map_some,Option.getD_some]
    congr 2
    have:y.toNat % 2 ^ 9=y.toNat:=Nat.mod_eq_of_lt (by omega)
    rw [this];omega
def mEq (d:Nat) (x y:Int):Bool:=y.toNat % 2 ^ d==x.toNat % 2 ^ d
def mLt (d:Nat) (x y:Int):Bool:=decide (y.toNat % 2 ^ d<x.toNat % 2 ^ d)
theorem mEq_succ {d:Nat} (hd:d≤8) {x y:Int} (hx:0≤x∧x<257) (hy:0≤y∧y<257):mEq (d+1) x y=(bitD d y==bitD d x&&mEq d x y):=by
  unfold mEq
  rw [mod_bit x.toNat d,mod_bit y.toNat d,bitD_eq hd hx.1 hx.2,bitD_eq hd hy.1 hy.2]
  have h1:y.toNat % 2 ^ d<2 ^ d:=Nat.mod_lt _ (Nat.two_pow_pos d)
  have h2:x.toNat % 2 ^ d<2 ^ d:=Nat.mod_lt _ (Nat.two_pow_pos d)
  generalize y.toNat % 2 ^ d=a at*
  generalize x.toNat % 2 ^ d=b at*
  generalize 2 ^ d=c at*
  cases y.toNat.testBit d<;>cases x.toNat.testBit d<;>(rw [Bool.eq_iff_iff];simp only [Bool.toNat_false,Bool.toNat_true,Nat.mul_zero,Nat.mul_one,Nat.add_zero,beq_iff_eq,Bool.and_eq_true,reduceCtorEq,eq_self,false_and,true_and,iff_false];try omega)
theorem mLt_succ {d:Nat} (hd:d≤8) {x y:Int} (hx:0≤x∧x<257) (hy:0≤y∧y<257):mLt (d+1) x y=((bitD d x&& !bitD d y)||(bitD d y==bitD d x&&mLt d x y)):=by
  unfold mLt
  rw [mod_bit x.toNat d,mod_bit y.toNat d,bitD_eq hd hx.1 hx.2,bitD_eq hd hy.1 hy.2]
  have h1:y.toNat % 2 ^ d<2 ^ d:=Nat.mod_lt _ (Nat.two_pow_pos d)
  have h2:x.toNat % 2 ^ d<2 ^ d:=Nat.mod_lt _ (Nat.two_pow_pos d)
  generalize y.toNat % 2 ^ d=a at*
  generalize x.toNat % 2 ^ d=b at*
  generalize 2 ^ d=c at*
  cases y.toNat.testBit d<;>cases x.toNat.testBit d<;>simp<;>omega
theorem wRankL_T {s : Ar} {H : List Int} (hI : Inv s H) : ∀ {d : Nat} {h : Int} {l : List Int} {x i : Int}, WR s d h l → d ≤ 9 → 0 ≤ i → i ≤ l.length → 0 ≤ x ∧ x < 257 →
    wRankL d s h x i=some (((l.take i.toNat).countP (mEq d x):Nat):Int)
  | 0,h,l,x,i,hw,hd,h0,hi,hx=>by
    unfold wRankL
    have:(l.take i.toNat).countP (mEq 0 x)=i.toNat:=by
      rw [List.countP_eq_length.2 (fun y _=>by simp [mEq,Nat.mod_one]),List.length_take];omega
    rw [this];congr 1;omega
  | d+1,h,l,x,i,hw,hd,h0,hi,hx=>by
    obtain ⟨hb,hk⟩:=hw.kids hI
    have hc:(l.take i.toNat).countP (mEq (d+1) x)=(F d (bitD d x) (l.take i.toNat)).countP (mEq d x):=by
      unfold F
      rw [List.countP_filter]
      refine List.countP_congr fun y hy=> ?_
      rw [mEq_succ (by omega) hx (hw.sy y (List.mem_of_mem_take hy)),Bool.and_comm]
    have hbe:symBit x (8 - (d:Int))=bitD d x:=rfl
    unfold wRankL
    rw [hbe,alike_F hI hb i _ h0 hi,Option.bind_some,hc]
    by_cases hj:(0:Int)<(((F d (bitD d x) (l.take i.toNat)).length:Nat):Int)
    · rw [if_pos hj]
      have hle:(F d (bitD d x) (l.take i.toNat)).length≤(F d (bitD d x) l).length:=by
        have:=filter_take (fun y=>bitD d y==bitD d x) l i.toNat
        have h2:=congrArg List.length this
        rw [List.length_take] at h2
        unfold F;omega
      rw [wRankL_T hI (hk _) (by omega) (by omega) (by omega) hx,Int.toNat_natCast]
      unfold F
      rw [filter_take]
    · rw [if_neg hj]
      have:F d (bitD d x) (l.take i.toNat)=[]:=List.length_eq_zero_iff.1 (by omega)
      rw [this];rfl
theorem mEq9 {x y:Int} (hx:0≤x∧x<257) (hy:0≤y∧y<257):mEq 9 x y=(y==x):=by
  unfold mEq
  rw [Nat.mod_eq_of_lt (show x.toNat<2 ^ 9 by omega),Nat.mod_eq_of_lt (show y.toNat<2 ^ 9 by omega)]
  rw [Bool.eq_iff_iff];simp;omega
theorem mLt9 {x y:Int} (hx:0≤x∧x<257) (hy:0≤y∧y<257):mLt 9 x y=decide (y<x):=by
  unfold mLt
  rw [Nat.mod_eq_of_lt (show x.toNat<2 ^ 9 by omega),Nat.mod_eq_of_lt (show y.toNat<2 ^ 9 by omega)]
  rw [Bool.eq_iff_iff];simp;omega
theorem WR.rank {s:Ar} {H:List Int} (hI:Inv s H) {h:Int} {l:List Int} (hw:WR s 9 h l) {x:Int} (hx:0≤x∧x<257) (i:Int) (h0:0≤i) (hi:i≤l.length):wRank s h x i=some (((l.take i.toNat).count x:Nat):Int):=by
  unfold wRank
  rw [if_pos (by simp [wIs,hx.1,hx.2]),wRankL_T hI hw (by omega) h0 hi hx]
  congr 2
  exact List.countP_congr fun y hy=>by rw [mEq9 hx (hw.sy y (List.mem_of_mem_take hy))]
theorem wBeforeL_T {s : Ar} {H : List Int} (hI : Inv s H) : ∀ {d : Nat} {h : Int} {l : List Int} {x a : Int}, WR s d h l → d ≤ 9 → 0 ≤ x ∧ x < 257 → 0 ≤ a → a + l.length ≤ 100000 →
    wBeforeL d s h x a=some (a+((l.countP (mLt d x):Nat):Int))
  | 0,h,l,x,a,hw,hd,hx,ha,ha'=>by
    unfold wBeforeL
    have:l.countP (mLt 0 x)=0:=List.countP_eq_zero.2 fun y _=>by simp [mLt,Nat.mod_one]
    rw [this];simp
  | d+1,h,l,x,a,hw,hd,hx,ha,ha'=>by
    obtain ⟨hb,hk⟩:=hw.kids hI
    have hbe:symBit x (8 - (d:Int))=bitD d x:=rfl
    have hsp:=F_split d l
    unfold wBeforeL
    rw [hbe]
    cases hbx:bitD d x with
    | true=>
      rw [if_pos rfl,hb.len hI,List.length_map,alike_F hI hb _ false (by omega) (by omega),Option.bind_some,Int.toNat_natCast,List.take_length,w64 (by omega) (by omega),wBeforeL_T hI (hk true) (by omega) hx (by omega) (by omega)]
      have:l.countP (mLt (d+1) x)=(F d false l).length+(F d true l).countP (mLt d x):=by
        unfold F
        rw [List.countP_filter,←List.countP_eq_length_filter]
        have hsy:=hw.sy
        clear hb hk hsp hw ha'
        induction l with
        | nil=>rfl
        | cons y l ih=>
          have hy:=hsy y (by simp)
          rw [List.countP_cons,List.countP_cons,List.countP_cons,ih (fun z hz=>hsy z (by simp [hz])),mLt_succ (by omega) hx hy,hbx]
          cases bitD d y<;>simp<;>omega
      rw [this];congr 1;push_cast;omega
    | false=>
      rw [if_neg (by decide),wBeforeL_T hI (hk false) (by omega) hx ha (by omega)]
      congr 3
      unfold F
      rw [List.countP_filter]
      refine List.countP_congr fun y hy=> ?_
      rw [mLt_succ (by omega) hx (hw.sy y hy),hbx]
      cases bitD d y<;>simp
theorem WR.before {s:Ar} {H:List Int} (hI:Inv s H) {h:Int} {l:List Int} (hw:WR s 9 h l) {x:Int} (hx:0≤x∧x<257):wBefore s h x=some ((l.countP (fun y=>decide (y<x)):Nat):Int):=by
  have hs:=hw.short
  unfold wBefore
  rw [if_neg (by omega),if_neg (by omega),wBeforeL_T hI hw (by omega) hx (by omega) (by omega),Int.zero_add]
  congr 2
  exact List.countP_congr fun y hy=>by rw [mLt9 hx (hw.sy y hy)]
end
section
open Go.RowKit
variable {ts : List (List UInt8)}
def below (ts:List (List UInt8)) (r:Nat×Nat) (L:List (Nat×Nat)):Nat:=L.countP fun x=>refLess ts x r
theorem srt_filter (r:Nat×Nat): ∀{L:List (Nat×Nat)},Srt ts L→L.filter (fun x=>refLess ts x r)=L.take (below ts r L)
  | [],_=>rfl
  | x::L,h=>by
    obtain ⟨h1,h2⟩:=List.pairwise_cons.1 h
    unfold below
    rw [List.countP_cons]
    by_cases hx:refLess ts x r=true
    · rw [if_pos hx,List.filter_cons_of_pos (by exact hx),List.take_succ_cons,srt_filter r h2];rfl
    · have h0:L.countP (fun x=>refLess ts x r)=0:=List.countP_eq_zero.2 fun y hy hyr=>hx (rl_trans (h1 y hy) hyr)
      rw [if_neg hx,List.filter_cons_of_neg (by exact hx),h0]
      exact List.filter_eq_nil_iff.2 fun y hy hyr=>hx (rl_trans (h1 y hy) hyr)
theorem srt_idx {r:Nat×Nat}: ∀{L:List (Nat×Nat)} {i:Nat},Srt ts L→L[i]? =some r→below ts r L=i
  | [],i,_,hi=>by simp at hi
  | x::L,0,h,hi=>by
    obtain ⟨h1,h2⟩:=List.pairwise_cons.1 h
    simp at hi
    subst hi
    unfold below
    rw [List.countP_cons,if_neg (by rw [rl_irr];decide)]
    exact List.countP_eq_zero.2 fun y hy=>by rw [rl_asymm (h1 y hy)];decide
  | x::L,i+1,h,hi=>by
    obtain ⟨h1,h2⟩:=List.pairwise_cons.1 h
    simp at hi
    unfold below
    rw [List.countP_cons,if_pos (h1 r (List.mem_of_getElem? hi))]
    have:=srt_idx h2 hi
    unfold below at this
    rw [this]
theorem srt_at {r:Nat×Nat} {L:List (Nat×Nat)} (h:Srt ts L) (hr:r∈L):L[below ts r L]? =some r:=by
  obtain ⟨i,hi⟩:=List.getElem?_of_mem hr
  rw [srt_idx h hi];exact hi
theorem below_le (r:Nat×Nat) (L:List (Nat×Nat)):below ts r L≤L.length:=List.countP_le_length
theorem bwt_take_count {L:List (Nat×Nat)} (h:Srt ts L) (p:Nat×Nat→Bool) (r:Nat×Nat):(L.take (below ts r L)).countP p=L.countP (fun x=>p x&&refLess ts x r):=by
  rw [←srt_filter r h,List.countP_filter]
theorem Srt.filter {L:List (Nat×Nat)} (h:Srt ts L) (p:Nat×Nat→Bool):Srt ts (L.filter p):=List.Pairwise.filter p h
theorem srt_while (r:Nat×Nat): ∀{L:List (Nat×Nat)},Srt ts L→refAt ts L r=below ts r L
  | [],_=>rfl
  | x::L,h=>by
    obtain ⟨h1,h2⟩:=List.pairwise_cons.1 h
    have:=srt_while r h2
    unfold refAt below at this⊢
    rw [List.takeWhile_cons,List.countP_cons]
    by_cases hx:refLess ts x r=true
    · rw [if_pos hx,if_pos hx,List.length_cons,this]
    · rw [if_neg hx,if_neg hx,List.countP_eq_zero.2 fun y hy hyr=>hx (rl_trans (h1 y hy) hyr)];rfl
theorem filter_or_perm {α:Type} (p q:α→Bool): ∀(l:List α),(∀x∈l,¬(p x=true∧q x=true))→(l.filter fun x=>p x||q x).Perm (l.filter q++l.filter p)
  | [],_=>List.Perm.refl _
  | x::l,h=>by
    have ih:=filter_or_perm p q l fun y hy=>h y (by simp [hy])
    have h1:=h x (by simp)
    simp only [List.filter_cons]
    cases hp:p x<;>cases hq:q x
    · simpa using ih
    · simpa using ih
    · simp only [Bool.true_or,if_true,Bool.false_eq_true,if_false]
      exact (ih.cons x).trans List.perm_middle.symm
    · exact absurd ⟨hp,hq⟩ h1
theorem srt_insert {L : List (Nat × Nat)} (h : Srt ts L) (hin : ∀ x ∈ L, RowIn ts x) {r : Nat × Nat} (hr : r ∈ L) {p q : Nat × Nat → Bool} (hp : p r = false) (hq : ∀ x ∈ L, q x = (p x || x == r)) :
    L.filter q=insA (L.filter p) (below ts r (L.filter p)) r:=by
  have hpf:=h.filter p
  have hnot:r∉L.filter p:=fun hm=>by rw [(List.mem_filter.1 hm).2] at hp;cases hp
  have hn:L.Nodup:=h.imp fun {a b} hab e=>by rw [e,rl_irr] at hab;cases hab
  have he:insA (L.filter p) (below ts r (L.filter p)) r=refIns ts (L.filter p) r:=by
    unfold refIns insA;rw [srt_while r hpf]
  rw [he]
  refine srt_unique (h.filter q) (ins_sorted (hin r hr) (fun x hx=>hin x (List.mem_filter.1 hx).1) hnot hpf) ?_
  refine List.Perm.trans ?_ (ins_perm ts (L.filter p) r).symm
  have h1:L.filter q=L.filter fun x=>p x||x==r:=List.filter_congr hq
  have h2:L.filter (fun x=>x==r)=[r]:=by
    rw [List.filter_beq,hn.count,if_pos hr];rfl
  rw [h1]
  have:=filter_or_perm p (fun x=>x==r) L fun x _ hx=>by
    have e:x=r:=by simpa using hx.2
    rw [e,hp] at hx;cases hx.1
  rw [h2] at this
  exact this
theorem count_or {α:Type} (p q:α→Bool) (l:List α) (h: ∀x∈l,¬(p x=true∧q x=true)):l.countP (fun x=>p x||q x)=l.countP p+l.countP q:=by
  induction l with
  | nil=>rfl
  | cons x l ih=>
    have h1:=h x (by simp)
    rw [List.countP_cons,List.countP_cons,List.countP_cons,ih fun y hy=>h y (by simp [hy])]
    cases hp:p x<;>cases hq:q x<;>simp_all<;>omega
theorem sym_succ {d a:Nat} {t:List UInt8} (ht:ts[d]? =some t) {x:UInt8} (hx:t[a]? =some x):symOf ts (d,a+1)=(x.toNat:Int)+1:=by
  unfold symOf
  rw [if_neg (by simp),getD_at ht]
  simp [List.getD,hx]
theorem sym_zero (d:Nat):symOf ts (d,0)=0:=rfl
theorem sym_bound (r:Nat×Nat):0≤symOf ts r∧symOf ts r<257:=by
  unfold symOf
  split
  · omega
  · have:=((ts.getD r.1 []).getD (r.2 - 1) 0).toNat_lt
    omega
theorem less_step {e b d a : Nat} {te td : List UInt8} (hte : ts[e]? = some te) (htd : ts[d]? = some td) (hb : b < te.length) (ha : a < td.length) :
    refLess ts (e,b) (d,a)=(decide (symOf ts (e,b+1)<symOf ts (d,a+1))||(symOf ts (e,b+1)==symOf ts (d,a+1)&&refLess ts (e,b+1) (d,a+1))):=by
  obtain ⟨x,hx⟩:=at_some hb
  obtain ⟨y,hy⟩:=at_some ha
  rw [sym_succ hte hx,sym_succ htd hy]
  unfold refLess
  dsimp only
  rw [getD_at hte,getD_at htd,drop_at hx,drop_at hy]
  have hxy:(x=y)↔(x.toNat=y.toNat):=UInt8.toNat_inj.symm
  show (if x=y then _ else _)=_
  by_cases e:x=y
  · subst e
    rw [if_pos rfl];simp
  · rw [if_neg e]
    have: ¬x.toNat=y.toNat:=fun h=>e (hxy.2 h)
    have h2:((x.toNat:Int)+1==(y.toNat:Int)+1)=false:=by rw [beq_eq_false_iff_ne];omega
    rw [h2,Bool.false_and,Bool.or_false]
    exact decide_eq_decide.2 (by omega)
theorem less_end {e d a:Nat} {te td:List UInt8} (hte:ts[e]? =some te) (htd:ts[d]? =some td) (ha:a<td.length):refLess ts (e,te.length) (d,a)=true:=by
  obtain ⟨y,hy⟩:=at_some ha
  unfold refLess
  dsimp only
  rw [getD_at hte,getD_at htd,drop_at hy,List.drop_length];rfl
def Q (ts:List (List UInt8)) (e a:Nat) (x:Nat×Nat):Bool:=decide (symOf ts x<symOf ts (e,a+1))||(symOf ts x==symOf ts (e,a+1)&&refLess ts x (e,a+1))
theorem doc_part {d e a : Nat} {td te : List UInt8} (htd : ts[d]? = some td) (hte : ts[e]? = some te) (ha : a < te.length) : ∀ j k, k + j = td.length →
    ((List.range' k (j+1)).map fun b=>(d,b)).countP (fun x=>refLess ts x (e,a))=1+((List.range' (k+1) j).map fun b=>(d,b)).countP (Q ts e a)
  | 0,k,hk=>by
    obtain rfl:k=td.length:=by omega
    show ([(d,td.length)]:List (Nat×Nat)).countP _=_
    rw [List.countP_cons,if_pos (less_end htd hte ha)]
    try rfl
  | j+1,k,hk=>by
    rw [List.range'_succ,List.map_cons,List.countP_cons,doc_part htd hte ha j (k+1) (by omega),List.range'_succ,List.map_cons,List.countP_cons,less_step htd hte (by omega) ha]
    unfold Q;omega
theorem rowsOf_range (ts:List (List UInt8)) (d:Nat):rowsOf ts d=(List.range' 0 ((ts.getD d []).length+1)).map fun b=>(d,b):=by
  unfold rowsOf;rw [List.range_eq_range']
def docs (ts:List (List UInt8)) (n:Nat):List (Nat×Nat):=(List.range n).flatMap (rowsOf ts)
theorem docs_succ (n:Nat):docs ts (n+1)=docs ts n++rowsOf ts n:=by
  unfold docs;rw [List.range_succ,List.flatMap_append];simp
theorem upto_docs (n:Nat):upto ts n 0=docs ts n:=by unfold upto docs;simp
theorem lf_docs {e a:Nat} {te:List UInt8} (hte:ts[e]? =some te) (ha:a<te.length): ∀n,n≤ts.length→(docs ts n).countP (fun x=>refLess ts x (e,a))=(docs ts n).countP (Q ts e a)
  | 0,_=>rfl
  | n+1,hn=>by
    obtain ⟨td,htd⟩:=at_some (show n<ts.length by omega)
    obtain ⟨y,hy⟩:=at_some ha
    rw [docs_succ,List.countP_append,List.countP_append,lf_docs hte ha n (by omega),rowsOf_range,getD_at htd,doc_part htd hte ha td.length 0 (by omega),List.range'_succ,List.map_cons,List.countP_cons,if_pos]
    · omega
    · unfold Q
      rw [sym_zero,sym_succ hte hy]
      have:decide ((0:Int)<(y.toNat:Int)+1)=true:=decide_eq_true (by omega)
      rw [this];rfl
theorem Q_split (e a:Nat) (L:List (Nat×Nat)):L.countP (Q ts e a)=(L.map (symOf ts)).countP (fun y=>decide (y<symOf ts (e,a+1)))+L.countP (fun x=>symOf ts x==symOf ts (e,a+1)&&refLess ts x (e,a+1)):=by
  unfold Q
  rw [count_or,List.countP_map]
  · rfl
  · rintro x _ ⟨h1,h2⟩
    simp only [decide_eq_true_eq,Bool.and_eq_true,beq_iff_eq] at h1 h2
    omega
theorem bwt_rank_at {L:List (Nat×Nat)} (h:Srt ts L) (r:Nat×Nat) (c:Int):((L.map (symOf ts)).take (below ts r L)).count c=L.countP (fun x=>symOf ts x==c&&refLess ts x r):=by
  rw [←List.map_take,List.count,List.countP_map]
  exact bwt_take_count h (fun x=>symOf ts x==c) r
def all (ts:List (List UInt8)):List (Nat×Nat):=refFold ts (upto ts ts.length 0)
theorem all_srt (ts:List (List UInt8)):Srt ts (all ts):=all_sorted ts
theorem all_docs (ts:List (List UInt8)):(all ts).Perm (docs ts ts.length):=by rw [←upto_docs];exact all_perm ts
theorem docs_mem {d a:Nat} {t:List UInt8} (ht:ts[d]? =some t) (ha:a≤t.length): ∀n,d<n→(d,a)∈docs ts n
  | 0,h=>by omega
  | n+1,h=>by
    rw [docs_succ]
    by_cases e:d=n
    · subst e
      refine List.mem_append.2 (.inr ?_)
      unfold rowsOf
      rw [getD_at ht]
      exact List.mem_map.2 ⟨a,List.mem_range.2 (by omega),rfl⟩
    · exact List.mem_append.2 (.inl (docs_mem ht ha n (by omega)))
theorem all_mem {d a:Nat} {t:List UInt8} (ht:ts[d]? =some t) (ha:a≤t.length):(d,a)∈all ts:=
  (all_docs ts).mem_iff.2 (docs_mem ht ha _ (List.getElem?_eq_some_iff.1 ht).1)
theorem lf_all {e a : Nat} {te : List UInt8} (hte : ts[e]? = some te) (ha : a < te.length) :
    below ts (e,a) (all ts)=((all ts).map (symOf ts)).countP (fun y=>decide (y<symOf ts (e,a+1)))+(((all ts).map (symOf ts)).take (below ts (e,a+1) (all ts))).count (symOf ts (e,a+1)):=by
  rw [bwt_rank_at (all_srt ts),←Q_split]
  unfold below
  rw [(all_docs ts).countP_eq,(all_docs ts).countP_eq,lf_docs hte ha _ (Nat.le_refl _)]
theorem end_docs {d:Nat} {td:List UInt8} (htd:ts[d]? =some td): ∀n,n≤ts.length→(docs ts n).countP (fun x=>refLess ts x (d,td.length))=min n d
  | 0,_=>by simp [docs]
  | n+1,hn=>by
    obtain ⟨tn,htn⟩:=at_some (show n<ts.length by omega)
    rw [docs_succ,List.countP_append,end_docs htd n (by omega)]
    have hrow: ∀j k,k+j=tn.length→((List.range' k (j+1)).map fun b=>(n,b)).countP (fun x=>refLess ts x (d,td.length))=if n<d then 1 else 0:=by
      intro j
      induction j with
      | zero=>
        intro k hk
        obtain rfl:k=tn.length:=by omega
        show ([(n,tn.length)]:List (Nat×Nat)).countP _=_
        rw [List.countP_cons]
        have:refLess ts (n,tn.length) (d,td.length)=decide (n<d):=by
          unfold refLess
          dsimp only
          rw [getD_at htn,getD_at htd,List.drop_length,List.drop_length];rfl
        rw [this];simp
      | succ j ih=>
        intro k hk
        obtain ⟨x,hx⟩:=at_some (show k<tn.length by omega)
        rw [List.range'_succ,List.map_cons,List.countP_cons,ih (k+1) (by omega)]
        have:refLess ts (n,k) (d,td.length)=false:=by
          unfold refLess
          dsimp only
          rw [getD_at htn,getD_at htd,List.drop_length,drop_at hx];rfl
        rw [this];simp
    rw [rowsOf_range,getD_at htn,hrow tn.length 0 (by omega)]
    split<;>omega
theorem end_all {d:Nat} {td:List UInt8} (htd:ts[d]? =some td):below ts (d,td.length) (all ts)=d:=by
  unfold below
  rw [(all_docs ts).countP_eq,end_docs htd _ (Nat.le_refl _)]
  have:=(List.getElem?_eq_some_iff.1 htd).1
  omega
end
end Go.Proofs.YtlboaaldggpjeaaGreat
